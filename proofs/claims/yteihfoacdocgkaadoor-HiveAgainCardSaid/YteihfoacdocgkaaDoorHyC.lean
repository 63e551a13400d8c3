/-
  Layer 5: the calls of a store with room for all, whose power may go.
-/
import Derived.Test.YteihfoacdocgkaaDoorHyB
set_option linter.unusedVariables false
set_option linter.unusedSimpArgs false
namespace Go.Proofs.YteihfoacdocgkaaDoor
open Go.RowKit Pl Sh

/-- what find answers, and the store then -/
theorem p_find (K : List Int) (q : HvP) (d : HvD) (n k : Nat) (A : Bool) (Kp : List (List UInt8)) (isB : Bool) (id : List UInt8) (w : World) (hat : HvAt w q d) (hg : PSt K d n (k + 1) A Kp) (hid : id.length = 32) :
    ∃ (row : List UInt8) (ok : Bool) (d2 : HvD), PSt K d2 n k A Kp ∧ rowsOf d2.L = rowsOf d.L ∧ (∀ x ∈ q.own d2.L, x ∈ q.own d.L) ∧ row.length ≤ 10000 ∧ (ok = true → row ∈ rowsOf d.L ∧ rowS K row = some (isB, id, row)) ∧ (ok = false → ∀ r ∈ rowsOf d.L, rowS K r ≠ some (isB, id, r)) ∧
      ∀ W, HvAt W q d → Laid K W → Calls Tryd.prog 70 #[.pointer (some ⟨q.p, 0, none⟩), .agg (Value.bool isB :: byV id).toArray] W fun r w' => r = .returned (.tuple #[.string ⟨row.toArray⟩, .bool ok]) ∧ HvAt w' q d2 ∧ Only (q.own d.L) W w' := by
  by_cases hex : ∃ e ∈ d.L, (e.isB, e.id) = (isB, id)
  · obtain ⟨e, he, hn⟩ := hex
    obtain ⟨rfl, rfl⟩ := Prod.mk.inj hn
    obtain ⟨j, hj⟩ := List.mem_iff_getElem?.1 he
    refine ⟨e.row, true, _, p_use hg hj, rows_use hj _, fun x hx => by rw [own_use hj] at hx; exact hx, (hat.fit e he).2.2, fun _ => ⟨List.mem_map.2 ⟨e, he, rfl⟩, (hg.ents e he).1⟩, (fun h => by cases h), fun W h1 h2 => ?_⟩
    exact find_ok K q d j e W h1 h2 hg.ready hj (by have := hg.clk; omega) (hg.read he)
  · refine ⟨[], false, d, hg.less (Nat.le_succ k), rfl, fun x hx => hx, Nat.zero_le _, (fun h => by cases h), fun _ r hr h5 => ?_, fun W h1 h2 => ?_⟩
    · obtain ⟨e, he, rfl⟩ := List.mem_map.1 hr
      rw [(hg.ents e he).1] at h5
      simp only [Option.some.injEq, Prod.mk.injEq, and_true] at h5
      exact hex ⟨e, he, by rw [h5.1, h5.2]⟩
    · refine (find_none K q d isB id W h1 h2 hg.ready hid (fun e he h => hex ⟨e, he, h⟩)).mono ?_
      rintro r w' ⟨rfl, hB⟩
      exact ⟨rfl, h1.below hB, Only.of_below hB⟩
/-- Blob -/
theorem p_blob (K : List Int) (q : HvP) (n k : Nat) (A : Bool) (C Kp : List (List UInt8)) (S : List Nat) (dg : List UInt8) (w : World) (h : PBox K w q n (k + 1) A C Kp S) (hL : Laid K w) (hdg : dg.length = 32) :
    Calls Tryd.prog 27 #[.pointer (some ⟨q.p, 0, none⟩), .agg (digV dg)] w fun r w' => ∃ (t : List UInt8) (ok : Bool), r = .returned (.tuple #[.string ⟨t.toArray⟩, .bool ok]) ∧ (ok = true → ∃ row ∈ C, rowS K row = some (true, dg, row) ∧ asBlobS row = (t, true)) ∧ (ok = false → t = [] ∧ ∀ r ∈ C, rowS K r ≠ some (true, dg, r)) ∧ PBox K w' q n k A C Kp S ∧ Only S w w' := by
  obtain ⟨d, h1, h2, h3, h4, h5⟩ := h
  obtain ⟨row, ok, d2, g1, g2, g3, g4, g5, g6, g7⟩ := p_find K q d n k A Kp true dg w h1 h2 hdg
  refine (hblob_gen q d d2 dg row ok w h1 hdg (by omega) (fun W hW hA => g7 W hA (hL.below hW))).mono ?_
  rintro r w' ⟨rfl, ha, hO⟩
  refine ⟨_, _, rfl, ?_, ?_, ⟨d2, ha, g1, by rw [g2]; exact h3, fun x hx => h4 x (g3 x hx), fun x hx => Nat.lt_of_lt_of_le (h5 x hx) hO.size⟩, hO.mono h4⟩
  · intro hk
    cases ok with
    | false => cases hk
    | true =>
      obtain ⟨m1, m2⟩ := g5 rfl
      obtain ⟨b, e1, e2⟩ := rowS_isB m2
      have : blobAns true row = (b, true) := e1
      rw [this]
      exact ⟨row, by rw [← h3]; exact m1, m2, e1⟩
  · intro hk
    cases ok with
    | false => exact ⟨rfl, by rw [← h3]; exact g6 rfl⟩
    | true =>
      obtain ⟨b, e1, e2⟩ := rowS_isB (g5 rfl).2
      have : blobAns true row = (b, true) := e1
      rw [this] at hk; cases hk
/-- Record -/
theorem p_rec (K : List Int) (q : HvP) (n k : Nat) (A : Bool) (C Kp : List (List UInt8)) (S : List Nat) (dg : List UInt8) (w : World) (h : PBox K w q n (k + 1) A C Kp S) (hL : Laid K w) (hdg : dg.length = 32) :
    Calls Tryd.prog 30 #[.pointer (some ⟨q.p, 0, none⟩), .agg (digV dg)] w fun r w' => ∃ (x : RecD) (ok : Bool), r = .returned (.tuple #[.agg x.row, .bool ok]) ∧ x.Fit ∧ (ok = true → ∃ row ∈ C, rowS K row = some (false, dg, row) ∧ asRecS row = some x ∧ x.key = dg) ∧ (ok = false → x = zeroRec ∧ ∀ r ∈ C, rowS K r ≠ some (false, dg, r)) ∧ PBox K w' q n k A C Kp S ∧ Only S w w' := by
  obtain ⟨d, h1, h2, h3, h4, h5⟩ := h
  obtain ⟨row, ok, d2, g1, g2, g3, g4, g5, g6, g7⟩ := p_find K q d n k A Kp false dg w h1 h2 hdg
  refine (hrec_gen q d d2 dg row ok w h1 hdg (by omega) g3 (fun W hW hA => g7 W hA (hL.below hW))).mono ?_
  rintro r w' ⟨rfl, ha, hO⟩
  refine ⟨_, _, rfl, recAns_fit ok row, ?_, ?_, ⟨d2, ha, g1, by rw [g2]; exact h3, fun x hx => h4 x (g3 x hx), fun x hx => Nat.lt_of_lt_of_le (h5 x hx) hO.size⟩, hO.mono h4⟩
  · intro hk
    cases ok with
    | false => cases hk
    | true =>
      obtain ⟨m1, m2⟩ := g5 rfl
      obtain ⟨x, e1, e2⟩ := rowS_isR m2
      have : recAns true row = some x := e1
      rw [this]
      exact ⟨row, by rw [← h3]; exact m1, m2, e1, e2⟩
  · intro hk
    cases ok with
    | false => exact ⟨rfl, by rw [← h3]; exact g6 rfl⟩
    | true =>
      obtain ⟨x, e1, e2⟩ := rowS_isR (g5 rfl).2
      have : recAns true row = some x := e1
      rw [this] at hk; cases hk
/-- Len -/
theorem p_len {K : List Int} {w : World} {q : HvP} {n k : Nat} {A : Bool} {C Kp : List (List UInt8)} {S : List Nat} (h : PBox K w q n k A C Kp S) :
    Calls Tryd.prog 26 #[.pointer (some ⟨q.p, 0, none⟩)] w fun r w' => r = .returned (.int .i64 C.length) ∧ w = w' := by
  obtain ⟨d, h1, h2, h3, h4, h5⟩ := h
  have hl : C.length = d.L.length := by rw [← h3]; unfold rowsOf; rw [List.length_map]
  rw [hl]
  exact hlen_any q d w h1
/-- Sync -/
theorem p_sync (K : List Int) (q : HvP) (n k : Nat) (A : Bool) (C Kp : List (List UInt8)) (S : List Nat) (w : World) (h : PBox K w q n (k + 1) A C Kp S) :
    Calls Tryd.prog 32 #[.pointer (some ⟨q.p, 0, none⟩)] w fun r w' => Only S w w' ∧ ((r = .returned (.int .i64 0) ∧ PBox K w' q n k A C C S) ∨ (A = true ∧ r = .returned (.int .i64 10) ∧ DShelf K w' q.b q.g n k C Kp)) := by
  obtain ⟨d, h1, h2, h3, h4, h5⟩ := h
  have hm := @own_mem q d.L
  have hroom := h2.room
  refine (hsync_any q d w h1 h2.ready (h2.alive.fits (by omega))).mono ?_
  rintro r w' ⟨rfl, ha, hO⟩
  have hO' : Only S w w' := hO.mono (fun x hx => by
    simp only [List.mem_cons, List.not_mem_nil, or_false] at hx
    rcases hx with rfl | rfl | rfl
    · exact h4 _ hm.1
    · exact h4 _ hm.2.2.2.2.1
    · exact h4 _ hm.2.2.2.2.2.1)
  refine ⟨hO', ?_⟩
  rcases alive_sync h2.alive with ⟨e1, e2, e3, e4⟩ | ⟨e1, e2, e3, e4⟩
  · left
    rw [e1] at ha ⊢
    refine ⟨rfl, _, ha, ⟨e3.more (by omega), by omega, by show (d.dead || _) = false; rw [h2.dead]; rfl, by show (((St.sync d.s).pw.life : Nat) : Int) = d.life; rw [e4]; exact h2.life, by have := h2.clk; show d.clk + k < _; omega, by have := h2.low; show d.life + (k : Int) < _; omega, h2.ents, h2.names, small_sync h2.small, by show SlotsAre K (St.sync d.s).slots _ _; rw [e2]; exact slots_sync h2.slots C, fun r hr => ?_⟩, h3, h4, fun x hx => Nat.lt_of_lt_of_le (h5 x hx) hO.size⟩
    rw [← h3] at hr
    obtain ⟨e, he, e5⟩ := List.mem_map.1 hr
    exact ⟨e, he, e5⟩
  · right
    rw [e2] at ha ⊢
    have hd := (h2.less (Nat.le_succ k)).dst (ats_nodup h1)
    exact ⟨e1, rfl, St.sync d.s, ha.sh, ⟨by rw [e3]; exact hd.len, by have := e4.acts; omega, by omega, by rw [e4.life, if_pos e4.down]; have := h2.low; have := h2.life; omega, fun _ => e4.armed, by rw [e4.armed]; omega, small_sync h2.small, by rw [← h3]; exact hd.rows, by rw [e3, ← h3]; exact hd.slots⟩⟩
/-- the keys of records among rows -/
def keysC (K : List Int) (C : List (List UInt8)) : List (List UInt8) := C.filterMap fun r => match rowS K r with
  | some (false, id, _) => some id
  | _ => none
/-- what put leaves of a store with room -/
def PPut (K : List Int) (d : HvD) (n k : Nat) (A : Bool) (Kp : List (List UInt8)) (row : List UInt8) (er : Int) (d' : HvD) : Prop :=
  (er = 0 ∧ PSt K d' n k A Kp ∧ rowsOf d'.L = rowsOf d.L ++ [row]) ∨ (er = 10 ∧ A = true ∧ DSt K d'.s n k (rowsOf d.L ++ [row]) Kp)
/-- put of an entry that is not there -/
theorem p_put (K : List Int) (q : HvP) (d : HvD) (n k : Nat) (A : Bool) (Kp : List (List UInt8)) (isB : Bool) (id row : List UInt8) (w : World) (h1 : HvAt w q d) (h2 : PSt K d n (k + 1) A Kp) (hL : Laid K w) (h0 : 0 ∉ q.own d.L) (hn : n ≤ 128) (hlt : d.L.length < n) (hid : id.length = 32) (hrl : row.length ≤ 600) (hrow : rowS K row = some (isB, id, row))
    (hne : ∀ e ∈ d.L, (e.isB, e.id) ≠ (isB, id)) :
    Calls Tryd.prog 68 #[.pointer (some ⟨q.p, 0, none⟩), .agg (Value.bool isB :: byV id).toArray, .string ⟨row.toArray⟩] w (PutR q d (PPut K d n k A Kp row) w) := by
  rcases first_free d.L n with hf | ⟨m, m1, m2, m3⟩
  · exfalso
    have := nodup_subset_length (l1 := List.range n) (l2 := d.L.map (·.at_)) List.nodup_range (fun x hx => by obtain ⟨e, he, h1⟩ := hf x (List.mem_range.1 hx); exact List.mem_map.2 ⟨e, he, h1⟩)
    simp at this
    omega
  · have hlen := h2.alive.len
    have hroom := h2.room
    have hg := hput_gen K q d d isB id row m w h1 hL h0 (fun W hW => by
      refine (room_free q d m W hW (by omega) (by omega) m2 m3).mono ?_
      rintro r w' ⟨rfl, rfl⟩
      exact ⟨rfl, hW, Only.refl _ _⟩) (by omega) m2 hid hrl hne (by have := h2.clk; omega) (h2.alive.fits (by omega))
    refine hg.mono ?_
    rintro r w' ⟨hO, h | ⟨he, rfl, blk, hbk, ha⟩⟩
    · obtain ⟨he, rfl, ha⟩ := h
      rcases p_add (blk := 0) h2 m1 m2 hrow hrl hne (ats_nodup h1) with ⟨e1, -⟩ | ⟨e1, e2, e3⟩
      · exact absurd e1 he
      · rw [e2] at ha ⊢
        exact ⟨10, _, rfl, .inr ⟨rfl, e1, e3⟩, ha, hO, fun x hx => .inl hx⟩
    · rcases p_add (blk := blk) h2 m1 m2 hrow hrl hne (ats_nodup h1) with ⟨-, e3⟩ | ⟨e1, e2, e3⟩
      · refine ⟨0, _, rfl, .inl ⟨rfl, e3, by unfold rowsOf; rw [List.map_append]; rfl⟩, ha, hO, fun x hx => ?_⟩
        simp only [HvP.own, List.map_append, List.mem_cons, List.mem_append, List.map_cons, List.map_nil, List.not_mem_nil, or_false, List.mem_map] at hx ⊢
        rcases hx with h | h | h | h | h | h | ⟨e, he, h⟩ | h
        · simp [h]
        · simp [h]
        · simp [h]
        · simp [h]
        · simp [h]
        · simp [h]
        · exact .inl (.inr (.inr (.inr (.inr (.inr (.inr ⟨e, he, h⟩))))))
        · right; rw [h]; exact hbk
      · rw [he] at e2; cases e2
/-- what a put leaves: the store with a row more, or a shelf without power -/
def PPutPost (K : List Int) (q : HvP) (n k : Nat) (A : Bool) (C Kp : List (List UInt8)) (row : List UInt8) (S : List Nat) (w : World) (er : Int) (w' : World) : Prop :=
  Only S w w' ∧ ((er = 0 ∧ ∃ S', PBox K w' q n k A (C ++ [row]) Kp S' ∧ (∀ x ∈ S', x ∈ S ∨ w.heap.size ≤ x)) ∨ (er = 10 ∧ A = true ∧ DShelf K w' q.b q.g n k (C ++ [row]) Kp))
theorem pput_of {K : List Int} {q : HvP} {n k : Nat} {A : Bool} {C Kp : List (List UInt8)} {row : List UInt8} {S : List Nat} {d d' : HvD} {er : Int} {w w' : World} (h3 : rowsOf d.L = C) (h4 : ∀ x ∈ q.own d.L, x ∈ S) (h5 : ∀ x ∈ S, x < w.heap.size) (hg : PPut K d n k A Kp row er d') (ha : HvAt w' q d') (hO : Only (q.own d.L) w w') (hx : ∀ x ∈ q.own d'.L, x ∈ q.own d.L ∨ w.heap.size ≤ x) : PPutPost K q n k A C Kp row S w er w' := by
  refine ⟨hO.mono h4, ?_⟩
  rcases hg with ⟨rfl, g1, g2⟩ | ⟨rfl, g1, g2⟩
  · refine .inl ⟨rfl, q.own d'.L ++ S, ⟨d', ha, g1, by rw [g2, h3], fun x h => List.mem_append_left _ h, fun x h => ?_⟩, fun x h => ?_⟩
    · rcases List.mem_append.1 h with h | h
      · exact ha.lt x h
      · exact Nat.lt_of_lt_of_le (h5 x h) hO.size
    · rcases List.mem_append.1 h with h | h
      · exact (hx x h).imp (h4 x) id
      · exact .inl h
  · exact .inr ⟨rfl, g1, d'.s, ha.sh, by rw [← h3]; exact g2⟩
/-- PutBlob, of whatever text -/
theorem p_putblob (K : List Int) (q : HvP) (n k : Nat) (A : Bool) (C Kp : List (List UInt8)) (S : List Nat) (b : List UInt8) (w : World) (h : PBox K w q n (k + 1) A C Kp S) (hL : Laid K w) (h0 : 0 ∉ S) (hn : n ≤ 128) (hlt : C.length < n) :
    Calls Tryd.prog 23 #[.pointer (some ⟨q.p, 0, none⟩), .string ⟨b.toArray⟩] w fun r w' =>
      (512 < b.length ∧ r = .returned (.tuple #[.agg (digV (List.replicate 32 0)), .int .i64 33]) ∧ PBox K w' q n k A C Kp S ∧ Only S w w') ∨
      (b.length ≤ 512 ∧ (∃ row ∈ C, rowS K row = some (true, hashB K b, row)) ∧ r = .returned (.tuple #[.agg (digV (hashB K b)), .int .i64 0]) ∧ PBox K w' q n k A C Kp S ∧ Only S w w') ∨
      (b.length ≤ 512 ∧ (∀ row ∈ C, rowS K row ≠ some (true, hashB K b, row)) ∧ ∃ er : Int, r = .returned (.tuple #[.agg (digV (if er = 0 then hashB K b else List.replicate 32 0)), .int .i64 er]) ∧ PPutPost K q n k A C Kp (blobRowS b) S w er w') := by
  obtain ⟨d, h1, h2, h3, h4, h5⟩ := h
  have h0o : 0 ∉ q.own d.L := fun h => h0 (h4 0 h)
  have hCl : C.length = d.L.length := by rw [← h3]; unfold rowsOf; rw [List.length_map]
  by_cases hb : b.length ≤ 512
  · by_cases hex : ∃ e ∈ d.L, (e.isB, e.id) = (true, hashB K b)
    · obtain ⟨e, he, hnm⟩ := hex
      obtain ⟨e1, e2⟩ := Prod.mk.inj hnm
      obtain ⟨j, hj⟩ := List.mem_iff_getElem?.1 he
      refine (gpb_again K q d j e b w h1 hL h2.ready hb hj e1 e2 (by have := h2.clk; omega)).mono ?_
      rintro r w' ⟨rfl, ha, hO⟩
      refine .inr (.inl ⟨hb, ⟨e.row, by rw [← h3]; exact List.mem_map.2 ⟨e, he, rfl⟩, by rw [(h2.ents e he).1, e1, e2]⟩, rfl, ⟨_, ha, p_use h2 hj, (rows_use hj _).trans h3, fun x hx => by rw [own_use hj] at hx; exact h4 x hx, fun x hx => Nat.lt_of_lt_of_le (h5 x hx) hO.size⟩, hO.mono h4⟩)
    · have hne : ∀ e ∈ d.L, (e.isB, e.id) ≠ (true, hashB K b) := fun e he h => hex ⟨e, he, h⟩
      refine (gpb_new K q d b (PPut K d n k A Kp (blobRowS b)) w h1 hL h0o h2.ready hb hne (fun W hW hLW => p_put K q d n k A Kp true (hashB K b) (blobRowS b) W hW h2 hLW h0o hn (by omega) (hashB_length K b) (blobRow_len b hb) (rowS_of_blob K b hb) hne)).mono ?_
      rintro r w' ⟨er, d', rfl, hg, ha, hO, hx⟩
      refine .inr (.inr ⟨hb, fun row hr h6 => ?_, er, rfl, pput_of h3 h4 h5 hg ha hO hx⟩)
      rw [← h3] at hr
      obtain ⟨e, he, rfl⟩ := List.mem_map.1 hr
      rw [(h2.ents e he).1] at h6
      simp only [Option.some.injEq, Prod.mk.injEq, and_true] at h6
      exact hne e he (by rw [h6.1, h6.2])
  · refine (gpb_wide q d b K w h1 hL h2.ready (by omega)).mono ?_
    rintro r w' ⟨rfl, hB⟩
    exact .inl ⟨by omega, rfl, ⟨d, h1.below hB, h2.less (Nat.le_succ k), h3, h4, fun x hx => Nat.lt_of_lt_of_le (h5 x hx) hB.size⟩, Only.of_below hB⟩
/-- PutRecord, of whatever record -/
theorem p_putrec (K : List Int) (q : HvP) (n k : Nat) (A : Bool) (C Kp : List (List UInt8)) (S : List Nat) (r : RecD) (w : World) (h : PBox K w q n (k + 1) A C Kp S) (hL : Laid K w) (h0 : 0 ∉ S) (hn : n ≤ 128) (hlt : C.length < n) (hf : r.Fit) :
    Calls Tryd.prog 31 #[.pointer (some ⟨q.p, 0, none⟩), .agg r.row] w fun x w' => ∃ er : Int, x = .returned (.int .i64 er) ∧
      ((er = 1 ∧ isRecS r = false ∧ PBox K w' q n k A C Kp S ∧ Only S w w') ∨
      (isRecS r = true ∧ (∃ row ∈ C, rowS K row = some (false, r.key, row) ∧ er = (if row = recRowS r then 0 else 21)) ∧ PBox K w' q n k A C Kp S ∧ Only S w w') ∨
      (isRecS r = true ∧ (∀ row ∈ C, rowS K row ≠ some (false, r.key, row)) ∧ PPutPost K q n k A C Kp (recRowS r) S w er w')) := by
  obtain ⟨d, h1, h2, h3, h4, h5⟩ := h
  have h0o : 0 ∉ q.own d.L := fun h => h0 (h4 0 h)
  have hCl : C.length = d.L.length := by rw [← h3]; unfold rowsOf; rw [List.length_map]
  cases hi : isRecS r with
  | true =>
    by_cases hex : ∃ e ∈ d.L, (e.isB, e.id) = (false, r.key)
    · obtain ⟨e, he, hnm⟩ := hex
      obtain ⟨e1, e2⟩ := Prod.mk.inj hnm
      obtain ⟨j, hj⟩ := List.mem_iff_getElem?.1 he
      have hmem : e.row ∈ C := by rw [← h3]; exact List.mem_map.2 ⟨e, he, rfl⟩
      have hrs : rowS K e.row = some (false, r.key, e.row) := by rw [(h2.ents e he).1, e1, e2]
      by_cases hrow : e.row = recRowS r
      · refine (grp_again K q d j e r w h1 hL h2.ready hf hi hj e1 e2 hrow (by have := h2.clk; omega)).mono ?_
        rintro x w' ⟨rfl, ha, hO⟩
        exact ⟨0, rfl, .inr (.inl ⟨rfl, ⟨e.row, hmem, hrs, by rw [if_pos hrow]⟩, ⟨_, ha, p_use h2 hj, (rows_use hj _).trans h3, fun x hx => by rw [own_use hj] at hx; exact h4 x hx, fun x hx => Nat.lt_of_lt_of_le (h5 x hx) hO.size⟩, hO.mono h4⟩)⟩
      · refine (grp_other K q d j e r w h1 hL h2.ready hf hi hj e1 e2 hrow).mono ?_
        rintro x w' ⟨rfl, hB⟩
        exact ⟨21, rfl, .inr (.inl ⟨rfl, ⟨e.row, hmem, hrs, by rw [if_neg hrow]⟩, ⟨d, h1.below hB, h2.less (Nat.le_succ k), h3, h4, fun x hx => Nat.lt_of_lt_of_le (h5 x hx) hB.size⟩, Only.of_below hB⟩)⟩
    · have hne : ∀ e ∈ d.L, (e.isB, e.id) ≠ (false, r.key) := fun e he h => hex ⟨e, he, h⟩
      refine (grp_new K q d r (PPut K d n k A Kp (recRowS r)) w h1 hL h0o h2.ready hf hi hne (fun W hW hLW => p_put K q d n k A Kp false r.key (recRowS r) W hW h2 hLW h0o hn (by omega) hf.k (by have := recRow_len hf; omega) (rowS_of_rec K r hf hi) hne)).mono ?_
      rintro x w' ⟨er, d', rfl, hg, ha, hO, hx⟩
      refine ⟨er, rfl, .inr (.inr ⟨rfl, fun row hr h6 => ?_, pput_of h3 h4 h5 hg ha hO hx⟩)⟩
      rw [← h3] at hr
      obtain ⟨e, he, rfl⟩ := List.mem_map.1 hr
      rw [(h2.ents e he).1] at h6
      simp only [Option.some.injEq, Prod.mk.injEq, and_true] at h6
      exact hne e he (by rw [h6.1, h6.2])
  | false =>
    refine (grp_bad K q d r w h1 hL h2.ready hf hi).mono ?_
    rintro x w' ⟨rfl, hB⟩
    exact ⟨1, rfl, .inl ⟨rfl, rfl, ⟨d, h1.below hB, h2.less (Nat.le_succ k), h3, h4, fun x hx => Nat.lt_of_lt_of_le (h5 x hx) hB.size⟩, Only.of_below hB⟩⟩
end Go.Proofs.YteihfoacdocgkaaDoor
