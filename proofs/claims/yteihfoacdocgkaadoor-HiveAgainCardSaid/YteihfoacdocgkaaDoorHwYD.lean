/-
  Layer 5 (hive): calls of a store that is none.
-/
import Derived.Test.YteihfoacdocgkaaDoorHwRX
import Derived.Test.YteihfoacdocgkaaDoorHwBF
import Derived.Test.YteihfoacdocgkaaDoorShI
set_option linter.unusedVariables false
set_option linter.unusedSimpArgs false
namespace Go.Proofs.YteihfoacdocgkaaDoor
open Go.RowKit Pl Sh

/-- a store of n slots that works, bears k calls yet; its slots may hold whatever texts -/
structure GSt (K : List Int) (d : HvD) (n k : Nat) : Prop where
  works : Works d.s n (900000 - 3 * k)
  room : 3 * k ≤ 900000
  dead : d.dead = false
  life : (d.s.pw.life : Int) = d.life
  clk : d.clk + k < 900000
  low : d.life + (k : Int) < 50000
  ents : ∀ e ∈ d.L, rowS K e.row = some (e.isB, e.id, e.row) ∧ e.at_ < n ∧ e.used ≤ (d.clk : Int)
  names : d.L.Pairwise (fun x y => (x.isB, x.id) ≠ (y.isB, y.id))
  useds : d.L.Pairwise (fun x y => x.used ≠ y.used)
  small : St.small d.s
theorem GSt.ready {K : List Int} {d : HvD} {n k : Nat} (h : GSt K d n k) : d.ready := ⟨h.dead, h.works.down, h.life⟩
theorem GSt.less {K : List Int} {d : HvD} {n k k' : Nat} (h : GSt K d n k) (hk : k' ≤ k) : GSt K d n k' :=
  ⟨h.works.more (by have := h.room; omega), by have := h.room; omega, h.dead, h.life, by have := h.clk; omega, by have := h.low; omega, h.ents, h.names, h.useds, h.small⟩
theorem gst_use {K : List Int} {d : HvD} {n k j : Nat} {e : HEnt} (h : GSt K d n (k + 1)) (hj : d.L[j]? = some e) :
    GSt K { d with L := d.L.set j { e with used := ((d.clk + 1 : Nat) : Int) }, clk := d.clk + 1 } n k := by
  have he : e ∈ d.L := List.mem_of_getElem? hj
  obtain ⟨e', he'⟩ : ∃ x : HEnt, x = { e with used := ((d.clk + 1 : Nat) : Int) } := ⟨_, rfl⟩
  have hps : (d.L.set j e').Perm (e' :: d.L.eraseIdx j) := perm_set e' hj
  have hpe := perm_erase hj
  rw [← he']
  refine ⟨h.works.more (by have := h.room; omega), by have := h.room; omega, h.dead, h.life, by have := h.clk; show d.clk + 1 + k < _; omega, by have := h.low; show d.life + (k : Int) < _; omega, fun x hx => ?_, ?_, ?_, h.small⟩
  · rcases List.mem_cons.1 (hps.mem_iff.1 hx) with rfl | hx
    · obtain ⟨g1, g2, g3⟩ := h.ents e he
      exact ⟨by rw [he']; exact g1, by rw [he']; exact g2, by rw [he']; exact Int.le_refl _⟩
    · obtain ⟨g1, g2, g3⟩ := h.ents x (List.mem_of_mem_eraseIdx hx)
      exact ⟨g1, g2, by show x.used ≤ ((d.clk + 1 : Nat) : Int); omega⟩
  · have hp := (hpe.pairwise_iff (fun {x y} (hne : (x.isB, x.id) ≠ (y.isB, y.id)) => Ne.symm hne)).2 h.names
    obtain ⟨g1, g2⟩ := List.pairwise_cons.1 hp
    exact (hps.pairwise_iff (fun {x y} (hne : (x.isB, x.id) ≠ (y.isB, y.id)) => Ne.symm hne)).2 (List.pairwise_cons.2 ⟨fun y hy => by rw [he']; exact g1 y hy, g2⟩)
  · have hp := (hpe.pairwise_iff (fun {x y} (hne : x.used ≠ y.used) => Ne.symm hne)).2 h.useds
    obtain ⟨g1, g2⟩ := List.pairwise_cons.1 hp
    refine (hps.pairwise_iff (fun {x y} (hne : x.used ≠ y.used) => Ne.symm hne)).2 (List.pairwise_cons.2 ⟨fun y hy => ?_, g2⟩)
    have := (h.ents y (List.mem_of_mem_eraseIdx hy)).2.2
    rw [he']
    show ((d.clk + 1 : Nat) : Int) ≠ y.used
    omega
theorem gst_gone {K : List Int} {d : HvD} {n k j : Nat} (h : GSt K d n (k + 1)) : GSt K { d with L := d.L.eraseIdx j } n k := by
  have h' := h.less (Nat.le_succ k)
  exact ⟨h'.works, h'.room, h'.dead, h'.life, h'.clk, h'.low, fun x hx => h.ents x (List.mem_of_mem_eraseIdx hx), h.names.sublist (List.eraseIdx_sublist _ _), h.useds.sublist (List.eraseIdx_sublist _ _), h.small⟩
theorem own_gone {q : HvP} {L : List HEnt} {j : Nat} : ∀ x ∈ q.own (L.eraseIdx j), x ∈ q.own L := by
  intro x hx
  simp only [HvP.own, List.mem_cons, List.mem_map] at hx ⊢
  rcases hx with h | h | h | h | h | h | ⟨e, he, h⟩
  · exact .inl h
  · exact .inr (.inl h)
  · exact .inr (.inr (.inl h))
  · exact .inr (.inr (.inr (.inl h)))
  · exact .inr (.inr (.inr (.inr (.inl h))))
  · exact .inr (.inr (.inr (.inr (.inr (.inl h)))))
  · exact .inr (.inr (.inr (.inr (.inr (.inr ⟨e, List.mem_of_mem_eraseIdx he, h⟩)))))
/-- what find answers, and the store then -/
theorem g_find (K : List Int) (q : HvP) (d : HvD) (n k : Nat) (isB : Bool) (id : List UInt8) (w : World) (hat : HvAt w q d) (hg : GSt K d n (k + 1)) (hid : id.length = 32) :
    ∃ (row : List UInt8) (ok : Bool) (d2 : HvD), GSt K d2 n k ∧ d2.pins = d.pins ∧ (∀ x ∈ q.own d2.L, x ∈ q.own d.L) ∧ row.length ≤ 10000 ∧ (ok = true → rowS K row = some (isB, id, row)) ∧
      ∀ W, HvAt W q d → Laid K W → Calls Tryd.prog 70 #[.pointer (some ⟨q.p, 0, none⟩), .agg (Value.bool isB :: byV id).toArray] W fun r w' => r = .returned (.tuple #[.string ⟨row.toArray⟩, .bool ok]) ∧ HvAt w' q d2 ∧ Only (q.own d.L) W w' := by
  by_cases hex : ∃ e ∈ d.L, (e.isB, e.id) = (isB, id)
  · obtain ⟨e, he, hn⟩ := hex
    obtain ⟨rfl, rfl⟩ := Prod.mk.inj hn
    obtain ⟨j, hj⟩ := List.mem_iff_getElem?.1 he
    by_cases htx : St.read d.s e.at_ = textS K e.row
    · refine ⟨e.row, true, _, gst_use hg hj, rfl, fun x hx => by rw [own_use hj] at hx; exact hx, (hat.fit e he).2.2, fun _ => (hg.ents e he).1, fun W h1 h2 => ?_⟩
      exact find_ok K q d j e W h1 h2 hg.ready hj (by have := hg.clk; omega) htx
    · refine ⟨[], false, _, gst_gone (j := j) hg, rfl, own_gone, Nat.zero_le _, (fun h => by cases h), fun W h1 h2 => ?_⟩
      exact find_bad K q d j e W h1 h2 hg.ready hj htx
  · refine ⟨[], false, d, hg.less (Nat.le_succ k), rfl, fun x hx => hx, Nat.zero_le _, (fun h => by cases h), fun W h1 h2 => ?_⟩
    refine (find_none K q d isB id W h1 h2 hg.ready hid (fun e he h => hex ⟨e, he, h⟩)).mono ?_
    rintro r w' ⟨rfl, hB⟩
    exact ⟨rfl, h1.below hB, Only.of_below hB⟩
theorem rowS_isB {K : List Int} {row id r : List UInt8} (h : rowS K row = some (true, id, r)) : ∃ b, asBlobS row = (b, true) ∧ hashB K b = id := by
  unfold rowS at h
  by_cases hb : (asBlobS row).2 = true
  · rw [if_pos hb] at h
    simp only [Option.some.injEq, Prod.mk.injEq] at h
    exact ⟨(asBlobS row).1, by rw [← hb], h.2.1⟩
  · rw [if_neg hb] at h
    cases hr : asRecS row with
    | none => rw [hr] at h; cases h
    | some r => rw [hr] at h; simp at h
theorem rowS_isR {K : List Int} {row id r : List UInt8} (h : rowS K row = some (false, id, r)) : ∃ x, asRecS row = some x ∧ x.key = id := by
  unfold rowS at h
  by_cases hb : (asBlobS row).2 = true
  · rw [if_pos hb] at h; simp at h
  · rw [if_neg hb] at h
    cases hr : asRecS row with
    | none => rw [hr] at h; cases h
    | some r =>
      rw [hr] at h
      simp only [Option.some.injEq, Prod.mk.injEq] at h
      exact ⟨r, rfl, h.2.1⟩
/-- a store in memory, all of whose blocks are among S -/
def GBox (K : List Int) (w : World) (q : HvP) (n k : Nat) (pins : List (List UInt8)) (S : List Nat) : Prop := ∃ d, HvAt w q d ∧ GSt K d n k ∧ d.pins = pins ∧ (∀ x ∈ q.own d.L, x ∈ S) ∧ ∀ x ∈ S, x < w.heap.size
theorem GBox.below {K : List Int} {w w' : World} {q : HvP} {n k : Nat} {pins : List (List UInt8)} {S : List Nat} (h : GBox K w q n k pins S) (hb : Below w.heap.size w w') : GBox K w' q n k pins S := by
  obtain ⟨d, h1, h2, h3, h4, h5⟩ := h
  exact ⟨d, h1.below hb, h2, h3, h4, fun x hx => Nat.lt_of_lt_of_le (h5 x hx) hb.size⟩
theorem GBox.less {K : List Int} {w : World} {q : HvP} {n k k' : Nat} {pins : List (List UInt8)} {S : List Nat} (h : GBox K w q n k pins S) (hk : k' ≤ k) : GBox K w q n k' pins S := by
  obtain ⟨d, h1, h2, h3, h4, h5⟩ := h
  exact ⟨d, h1, h2.less hk, h3, h4, h5⟩
theorem GBox.apart {K : List Int} {w w' : World} {q : HvP} {n k : Nat} {pins : List (List UInt8)} {S T : List Nat} (h : GBox K w q n k pins S) (ho : Only T w w') (hT : ∀ x ∈ S, x ∉ T) : GBox K w' q n k pins S := by
  obtain ⟨d, h1, h2, h3, h4, h5⟩ := h
  exact ⟨d, h1.keep (fun x hx => ho.block x (h5 x (h4 x hx)) (hT x (h4 x hx))), h2, h3, h4, fun x hx => Nat.lt_of_lt_of_le (h5 x hx) ho.size⟩
/-- Blob: what is answered has the digest that was asked for -/
theorem g_blob (K : List Int) (q : HvP) (n k : Nat) (pins : List (List UInt8)) (S : List Nat) (dg : List UInt8) (w : World) (h : GBox K w q n (k + 1) pins S) (hL : Laid K w) (hdg : dg.length = 32) :
    Calls Tryd.prog 27 #[.pointer (some ⟨q.p, 0, none⟩), .agg (digV dg)] w fun r w' => ∃ (t : List UInt8) (ok : Bool), r = .returned (.tuple #[.string ⟨t.toArray⟩, .bool ok]) ∧ (ok = true → hashB K t = dg) ∧ (ok = false → t = []) ∧ t.length ≤ 512 ∧ GBox K w' q n k pins S ∧ Only S w w' := by
  obtain ⟨d, h1, h2, h3, h4, h5⟩ := h
  obtain ⟨row, ok, d2, g1, g2, g3, g4, g5, g6⟩ := g_find K q d n k true dg w h1 h2 hdg
  refine (hblob_gen q d d2 dg row ok w h1 hdg (by omega) (fun W hW hA => g6 W hA (hL.below hW))).mono ?_
  rintro r w' ⟨rfl, ha, hO⟩
  refine ⟨_, _, rfl, ?_, ?_, ?_, ⟨d2, ha, g1, by rw [g2]; exact h3, fun x hx => h4 x (g3 x hx), fun x hx => Nat.lt_of_lt_of_le (h5 x hx) hO.size⟩, hO.mono h4⟩
  · intro hk
    cases ok with
    | false => cases hk
    | true =>
      obtain ⟨b, e1, e2⟩ := rowS_isB (g5 rfl)
      have : blobAns true row = (b, true) := e1
      rw [this]; exact e2
  · intro hk
    cases ok with
    | false => rfl
    | true =>
      obtain ⟨b, e1, e2⟩ := rowS_isB (g5 rfl)
      have : blobAns true row = (b, true) := e1
      rw [this] at hk; cases hk
  · cases ok with
    | false => exact Nat.zero_le _
    | true => exact asBlobS_le row
/-- Record: what is answered has the key that was asked for -/
theorem g_rec (K : List Int) (q : HvP) (n k : Nat) (pins : List (List UInt8)) (S : List Nat) (dg : List UInt8) (w : World) (h : GBox K w q n (k + 1) pins S) (hL : Laid K w) (hdg : dg.length = 32) :
    Calls Tryd.prog 30 #[.pointer (some ⟨q.p, 0, none⟩), .agg (digV dg)] w fun r w' => ∃ (x : RecD) (ok : Bool), r = .returned (.tuple #[.agg x.row, .bool ok]) ∧ x.Fit ∧ (ok = true → x.key = dg) ∧ (ok = false → x = zeroRec) ∧ GBox K w' q n k pins S ∧ Only S w w' := by
  obtain ⟨d, h1, h2, h3, h4, h5⟩ := h
  obtain ⟨row, ok, d2, g1, g2, g3, g4, g5, g6⟩ := g_find K q d n k false dg w h1 h2 hdg
  refine (hrec_gen q d d2 dg row ok w h1 hdg (by omega) g3 (fun W hW hA => g6 W hA (hL.below hW))).mono ?_
  rintro r w' ⟨rfl, ha, hO⟩
  refine ⟨_, _, rfl, recAns_fit ok row, ?_, ?_, ⟨d2, ha, g1, by rw [g2]; exact h3, fun x hx => h4 x (g3 x hx), fun x hx => Nat.lt_of_lt_of_le (h5 x hx) hO.size⟩, hO.mono h4⟩
  · intro hk
    cases ok with
    | false => cases hk
    | true =>
      obtain ⟨x, e1, e2⟩ := rowS_isR (g5 rfl)
      have : recAns true row = some x := e1
      rw [this]; exact e2
  · intro hk
    have : recAns ok row = none := by
      cases hx : recAns ok row with
      | none => rfl
      | some x => rw [hx] at hk; cases hk
    rw [this]; rfl
end Go.Proofs.YteihfoacdocgkaaDoor

set_option linter.unusedVariables false
set_option linter.unusedSimpArgs false
namespace Go.Proofs.YteihfoacdocgkaaDoor
open Go.RowKit Pl Sh

/-- the entry that wasn't used for the longest time, of those that are not pinned -/
theorem least_used (pins : List (List UInt8)) : ∀ L : List HEnt, (∀ e ∈ L, e.id ∈ pins) ∨ ∃ e ∈ L, e.id ∉ pins ∧ ∀ y ∈ L, y.id ∈ pins ∨ e.used ≤ y.used
  | [] => .inl (fun e he => by cases he)
  | a :: L => by
    by_cases ha : a.id ∈ pins
    · rcases least_used pins L with h | ⟨e, he, h1, h2⟩
      · exact .inl (fun e he => by rcases List.mem_cons.1 he with rfl | he; exact ha; exact h e he)
      · exact .inr ⟨e, List.mem_cons_of_mem _ he, h1, fun y hy => by rcases List.mem_cons.1 hy with rfl | hy; exact .inl ha; exact h2 y hy⟩
    · rcases least_used pins L with h | ⟨e, he, h1, h2⟩
      · exact .inr ⟨a, by simp, ha, fun y hy => by rcases List.mem_cons.1 hy with rfl | hy; exact .inr (Int.le_refl _); exact .inl (h y hy)⟩
      · rcases Int.le_total a.used e.used with hle | hle
        · exact .inr ⟨a, by simp, ha, fun y hy => by
            rcases List.mem_cons.1 hy with rfl | hy
            · exact .inr (Int.le_refl _)
            · rcases h2 y hy with h | h
              · exact .inl h
              · exact .inr (Int.le_trans hle h)⟩
        · exact .inr ⟨e, List.mem_cons_of_mem _ he, h1, fun y hy => by
            rcases List.mem_cons.1 hy with rfl | hy
            · exact .inr hle
            · exact h2 y hy⟩
theorem gst_add {K : List Int} {d : HvD} {n k : Nat} {s2 : St} {m blk : Nat} {isB : Bool} {id row : List UInt8} (h : GSt K d n (k + 1)) (hm : m < n) (hs : Works s2 n (900000 - 3 * k)) (hl : (s2.pw.life : Int) = d.life)
    (hrow : rowS K row = some (isB, id, row)) (hne : ∀ e ∈ d.L, (e.isB, e.id) ≠ (isB, id)) (hsm : St.small s2) :
    GSt K { d with s := s2, L := d.L ++ [⟨isB, id, m, ((d.clk + 1 : Nat) : Int), row, blk⟩], clk := d.clk + 1 } n k := by
  refine ⟨hs, by have := h.room; omega, h.dead, hl, by have := h.clk; show d.clk + 1 + k < _; omega, by have := h.low; show d.life + (k : Int) < _; omega, fun x hx => ?_, ?_, ?_, hsm⟩
  · rcases List.mem_append.1 hx with hx | hx
    · obtain ⟨g1, g2, g3⟩ := h.ents x hx
      exact ⟨g1, g2, by show x.used ≤ ((d.clk + 1 : Nat) : Int); omega⟩
    · simp only [List.mem_singleton] at hx
      subst hx
      exact ⟨hrow, hm, Int.le_refl _⟩
  · exact List.pairwise_append.2 ⟨h.names, List.pairwise_singleton _ _, fun x hx y hy => by simp only [List.mem_singleton] at hy; subst hy; exact hne x hx⟩
  · exact List.pairwise_append.2 ⟨h.useds, List.pairwise_singleton _ _, fun x hx y hy => by
      simp only [List.mem_singleton] at hy
      subst hy
      have := (h.ents x hx).2.2
      show x.used ≠ ((d.clk + 1 : Nat) : Int)
      omega⟩
def GPut (K : List Int) (d : HvD) (n k : Nat) (er : Int) (d' : HvD) : Prop := (er = 0 ∨ er = 11) ∧ GSt K d' n k ∧ d'.pins = d.pins
/-- put, where room answers slot m -/
theorem g_put_at (K : List Int) (q : HvP) (d d2 : HvD) (n k m : Nat) (isB : Bool) (id row : List UInt8) (w : World) (h1 : HvAt w q d) (hL : Laid K w) (h0 : 0 ∉ q.own d.L) (hn : n ≤ 128) (hid : id.length = 32) (hrl : row.length ≤ 600) (hrow : rowS K row = some (isB, id, row))
    (hne : ∀ e ∈ d.L, (e.isB, e.id) ≠ (isB, id)) (hs2 : ∀ x ∈ d2.L, x ∈ d.L) (hB2 : GSt K d2 n (k + 1)) (hp2 : d2.pins = d.pins) (hm : m < n) (hfree : ∀ e ∈ d2.L, e.at_ ≠ m)
    (hroom : ∀ W, HvAt W q d → Calls Tryd.prog 126 #[.pointer (some ⟨q.p, 0, none⟩)] W fun e w' => e = .returned (.tuple #[.int .i64 m, .int .i64 0]) ∧ HvAt w' q d2 ∧ Only (q.own d.L) W w') :
    Calls Tryd.prog 68 #[.pointer (some ⟨q.p, 0, none⟩), .agg (Value.bool isB :: byV id).toArray, .string ⟨row.toArray⟩] w (PutR q d (GPut K d n k) w) := by
  have htl : (textS K row).length ≤ 640 := by unfold textS; rw [List.length_append, hashB_length]; omega
  have hw := hB2.works.write hm (textS K row) htl
  have hwl := write_life hB2.works hm (textS K row) htl
  have hg := hput_gen K q d d2 isB id row m w h1 hL h0 hroom (by omega) hfree hid hrl (fun e he => hne e (hs2 e he)) (by have := hB2.clk; omega) (hB2.works.fits (by omega))
  refine hg.mono ?_
  rintro r w' ⟨hO, h | ⟨-, rfl, blk, hbk, ha⟩⟩
  · exact absurd hw.1 h.1
  · refine ⟨0, _, rfl, ⟨.inl rfl, gst_add hB2 hm (hw.2.1.more (by have := hB2.room; omega)) (by rw [hwl]; exact hB2.life) hrow (fun e he => hne e (hs2 e he)) (small_write hB2.small _ _), hp2⟩, ha, hO, fun x hx => ?_⟩
    simp only [HvP.own, List.map_append, List.mem_cons, List.mem_append, List.map_cons, List.map_nil, List.not_mem_nil, or_false, List.mem_map] at hx ⊢
    rcases hx with h | h | h | h | h | h | ⟨e, he, h⟩ | h
    · simp [h]
    · simp [h]
    · simp [h]
    · simp [h]
    · simp [h]
    · simp [h]
    · exact .inl (.inr (.inr (.inr (.inr (.inr (.inr ⟨e, hs2 e he, h⟩))))))
    · right; rw [h]; exact hbk
/-- put of an entry that is not there -/
theorem g_put (K : List Int) (q : HvP) (d : HvD) (n k : Nat) (isB : Bool) (id row : List UInt8) (w : World) (h1 : HvAt w q d) (h2 : GSt K d n (k + 2)) (hL : Laid K w) (h0 : 0 ∉ q.own d.L) (hn : n ≤ 128) (hid : id.length = 32) (hrl : row.length ≤ 600) (hrow : rowS K row = some (isB, id, row))
    (hne : ∀ e ∈ d.L, (e.isB, e.id) ≠ (isB, id)) :
    Calls Tryd.prog 68 #[.pointer (some ⟨q.p, 0, none⟩), .agg (Value.bool isB :: byV id).toArray, .string ⟨row.toArray⟩] w (PutR q d (GPut K d n k) w) := by
  have hlt : ∀ e ∈ d.L, e.at_ < n := fun e he => (h2.ents e he).2.1
  rcases first_free d.L n with hf | ⟨m, m1, m2, m3⟩
  · have hfull : ∀ i, i < d.s.slots.length → ∃ e ∈ d.L, e.at_ = i := by rw [h2.works.len]; exact hf
    have hsl : d.s.slots.length ≤ 128 := by rw [h2.works.len]; exact hn
    rcases least_used d.pins d.L with hall | ⟨e, he, hep, hlow⟩
    · refine (hput_err q d d _ row 11 0 w h1 (by decide) (fun V hV => ?_)).mono ?_
      · refine (room_none q d V hV hsl hfull hall).mono ?_
        rintro r w' ⟨rfl, hB⟩
        exact ⟨rfl, hV.below hB, Only.of_below hB⟩
      · rintro r w' ⟨rfl, ha, hO⟩
        exact ⟨11, d, rfl, ⟨.inr rfl, h2.less (by omega), rfl⟩, ha, hO, fun x hx => .inl hx⟩
    · obtain ⟨j, hj⟩ := List.mem_iff_getElem?.1 he
      have hat := hlt e he
      have hw1 := h2.works.write hat [] (by decide)
      have hy := sync_works hw1.2.1
      have hB2 : GSt K { d with s := St.sync (St.write d.s e.at_ []), L := d.L.eraseIdx j } n (k + 1) := by
        have hg := gst_gone (j := j) (h2.less (k' := k + 1 + 1) (by omega))
        exact ⟨hy.2.more (by have := h2.room; omega), hg.room, hg.dead, by show ((St.sync (St.write d.s e.at_ [])).pw.life : Int) = _; rw [sync_life hw1.2.1, write_life h2.works hat [] (by decide)]; exact h2.life, hg.clk, hg.low, hg.ents, hg.names, hg.useds, small_sync (small_write h2.small _ _)⟩
      refine g_put_at K q d _ n k e.at_ isB id row w h1 hL h0 hn hid hrl hrow hne (fun x hx => List.mem_of_mem_eraseIdx hx) hB2 rfl hat (fun x hx h5 => ?_) (fun W hW => ?_)
      · have hp := (perm_erase hj).map (·.at_)
        have := hp.nodup_iff.2 (ats_nodup h1)
        rw [List.map_cons, List.nodup_cons] at this
        exact this.1 (List.mem_map.2 ⟨x, hx, h5⟩)
      · refine (room_evict q d j e W hW hsl hfull hj hep hlow (fun y hy hyu => pw_eq (fun z : HEnt => z.used) h2.useds hy he hyu) (h2.works.fits (by omega)) (hw1.2.1.fits (by omega))).mono ?_
        rintro r w' ⟨hO, h | h | ⟨-, -, rfl, ha⟩⟩
        · exact absurd hw1.1 h.1
        · exact absurd hy.1 h.2.1
        · exact ⟨rfl, ha, hO⟩
  · refine g_put_at K q d d n k m isB id row w h1 hL h0 hn hid hrl hrow hne (fun x hx => hx) (h2.less (by omega)) rfl m1 m2 (fun W hW => ?_)
    refine (room_free q d m W hW (by rw [h2.works.len]; exact hn) (by rw [h2.works.len]; exact m1) m2 m3).mono ?_
    rintro r w' ⟨rfl, rfl⟩
    exact ⟨rfl, hW, Only.refl _ _⟩
end Go.Proofs.YteihfoacdocgkaaDoor

set_option linter.unusedVariables false
set_option linter.unusedSimpArgs false
namespace Go.Proofs.YteihfoacdocgkaaDoor
open Go.RowKit Pl Sh

theorem parts_rec (r : RecD) (hf : r.Fit) : partsS (recRowS r) = [[114], r.key, num r.code, r.out] := by
  have hn := num_length_le r.code hf.lo hf.hi
  have hk := hf.k
  have ho := hf.o
  have h := rd_of_row [[114], r.key, num r.code, r.out] [] 4 (by simp) (by
    intro t ht
    simp only [List.mem_cons, List.not_mem_nil, or_false] at ht
    rcases ht with rfl | rfl | rfl | rfl
    · simp
    · omega
    · omega
    · omega)
  rw [List.append_nil, if_pos (by simp)] at h
  unfold partsS recRowS
  rw [h]
theorem asBlob_rec (r : RecD) (hf : r.Fit) : asBlobS (recRowS r) = ([], false) := by
  unfold asBlobS
  rw [parts_rec r hf]
  rfl
theorem asRec_rec (r : RecD) (hf : r.Fit) (hi : isRecS r = true) : asRecS (recRowS r) = some r := by
  unfold asRecS
  rw [parts_rec r hf]
  have h := rd_of_num r.code [] hf.lo hf.hi
  rw [List.append_nil] at h
  rw [asRec_yes hf.k hf.o h]
  exact if_pos hi
theorem rowS_of_blob (K : List Int) (b : List UInt8) (hb : b.length ≤ 512) : rowS K (blobRowS b) = some (true, hashB K b, blobRowS b) := rowS_blob (asBlob_blob b hb)
theorem rowS_of_rec (K : List Int) (r : RecD) (hf : r.Fit) (hi : isRecS r = true) : rowS K (recRowS r) = some (false, r.key, recRowS r) := by
  rw [rowS_rec (asBlob_rec r hf), asRec_rec r hf hi]
  rfl
def GPutPost (K : List Int) (q : HvP) (n k : Nat) (pins : List (List UInt8)) (S : List Nat) (w w' : World) : Prop := ∃ S', GBox K w' q n k pins S' ∧ Only S w w' ∧ ∀ x ∈ S', x ∈ S ∨ w.heap.size ≤ x
theorem gput_of {K : List Int} {q : HvP} {n k : Nat} {pins : List (List UInt8)} {S : List Nat} {d d' : HvD} {w w' : World} (h3 : d.pins = pins) (h4 : ∀ x ∈ q.own d.L, x ∈ S) (h5 : ∀ x ∈ S, x < w.heap.size) (hg : GSt K d' n k) (hp : d'.pins = d.pins) (ha : HvAt w' q d') (hO : Only (q.own d.L) w w') (hx : ∀ x ∈ q.own d'.L, x ∈ q.own d.L ∨ w.heap.size ≤ x) : GPutPost K q n k pins S w w' := by
  refine ⟨q.own d'.L ++ S, ⟨d', ha, hg, hp.trans h3, fun x h => List.mem_append_left _ h, fun x h => ?_⟩, hO.mono h4, fun x h => ?_⟩
  · rcases List.mem_append.1 h with h | h
    · exact ha.lt x h
    · exact Nat.lt_of_lt_of_le (h5 x h) hO.size
  · rcases List.mem_append.1 h with h | h
    · exact (hx x h).imp (h4 x) id
    · exact .inl h
/-- PutBlob, of whatever text -/
theorem g_putblob (K : List Int) (q : HvP) (n k : Nat) (pins : List (List UInt8)) (S : List Nat) (b : List UInt8) (w : World) (h : GBox K w q n (k + 2) pins S) (hL : Laid K w) (h0 : 0 ∉ S) (hn : n ≤ 128) :
    Calls Tryd.prog 23 #[.pointer (some ⟨q.p, 0, none⟩), .string ⟨b.toArray⟩] w fun r w' => (∃ (dg : List UInt8) (er : Int), dg.length = 32 ∧ r = .returned (.tuple #[.agg (digV dg), .int .i64 er])) ∧ GPutPost K q n k pins S w w' := by
  obtain ⟨d, h1, h2, h3, h4, h5⟩ := h
  have h0o : 0 ∉ q.own d.L := fun h => h0 (h4 0 h)
  by_cases hb : b.length ≤ 512
  · by_cases hex : ∃ e ∈ d.L, (e.isB, e.id) = (true, hashB K b)
    · obtain ⟨e, he, hnm⟩ := hex
      obtain ⟨e1, e2⟩ := Prod.mk.inj hnm
      obtain ⟨j, hj⟩ := List.mem_iff_getElem?.1 he
      refine (gpb_again K q d j e b w h1 hL h2.ready hb hj e1 e2 (by have := h2.clk; omega)).mono ?_
      rintro r w' ⟨rfl, ha, hO⟩
      exact ⟨⟨_, _, hashB_length K b, rfl⟩, gput_of h3 h4 h5 ((gst_use (h2.less (k' := k + 1) (by omega)) hj)) rfl ha hO (fun x hx => by rw [own_use hj] at hx; exact .inl hx)⟩
    · have hne : ∀ e ∈ d.L, (e.isB, e.id) ≠ (true, hashB K b) := fun e he h => hex ⟨e, he, h⟩
      refine (gpb_new K q d b (GPut K d n k) w h1 hL h0o h2.ready hb hne (fun W hW hLW => g_put K q d n k true (hashB K b) (blobRowS b) W hW h2 hLW h0o hn (hashB_length K b) (blobRow_len b hb) (rowS_of_blob K b hb) hne)).mono ?_
      rintro r w' ⟨er, d', rfl, ⟨-, hg, hp⟩, ha, hO, hx⟩
      exact ⟨⟨_, _, by split; exact hashB_length K b; simp, rfl⟩, gput_of h3 h4 h5 hg hp ha hO hx⟩
  · refine (gpb_wide q d b K w h1 hL h2.ready (by omega)).mono ?_
    rintro r w' ⟨rfl, hB⟩
    exact ⟨⟨_, _, by simp, rfl⟩, gput_of h3 h4 h5 (h2.less (by omega)) rfl (h1.below hB) (Only.of_below hB) (fun x hx => .inl hx)⟩
/-- PutRecord, of whatever record -/
theorem g_putrec (K : List Int) (q : HvP) (n k : Nat) (pins : List (List UInt8)) (S : List Nat) (r : RecD) (w : World) (h : GBox K w q n (k + 2) pins S) (hL : Laid K w) (h0 : 0 ∉ S) (hn : n ≤ 128) (hf : r.Fit) :
    Calls Tryd.prog 31 #[.pointer (some ⟨q.p, 0, none⟩), .agg r.row] w fun x w' => (∃ er : Int, x = .returned (.int .i64 er)) ∧ GPutPost K q n k pins S w w' := by
  obtain ⟨d, h1, h2, h3, h4, h5⟩ := h
  have h0o : 0 ∉ q.own d.L := fun h => h0 (h4 0 h)
  cases hi : isRecS r with
  | true =>
    by_cases hex : ∃ e ∈ d.L, (e.isB, e.id) = (false, r.key)
    · obtain ⟨e, he, hnm⟩ := hex
      obtain ⟨e1, e2⟩ := Prod.mk.inj hnm
      obtain ⟨j, hj⟩ := List.mem_iff_getElem?.1 he
      by_cases hrow : e.row = recRowS r
      · refine (grp_again K q d j e r w h1 hL h2.ready hf hi hj e1 e2 hrow (by have := h2.clk; omega)).mono ?_
        rintro x w' ⟨rfl, ha, hO⟩
        exact ⟨⟨_, rfl⟩, gput_of h3 h4 h5 ((gst_use (h2.less (k' := k + 1) (by omega)) hj)) rfl ha hO (fun x hx => by rw [own_use hj] at hx; exact .inl hx)⟩
      · refine (grp_other K q d j e r w h1 hL h2.ready hf hi hj e1 e2 hrow).mono ?_
        rintro x w' ⟨rfl, hB⟩
        exact ⟨⟨_, rfl⟩, gput_of h3 h4 h5 (h2.less (by omega)) rfl (h1.below hB) (Only.of_below hB) (fun x hx => .inl hx)⟩
    · have hne : ∀ e ∈ d.L, (e.isB, e.id) ≠ (false, r.key) := fun e he h => hex ⟨e, he, h⟩
      refine (grp_new K q d r (GPut K d n k) w h1 hL h0o h2.ready hf hi hne (fun W hW hLW => g_put K q d n k false r.key (recRowS r) W hW h2 hLW h0o hn hf.k (by have := recRow_len hf; omega) (rowS_of_rec K r hf hi) hne)).mono ?_
      rintro x w' ⟨er, d', rfl, ⟨-, hg, hp⟩, ha, hO, hx⟩
      exact ⟨⟨_, rfl⟩, gput_of h3 h4 h5 hg hp ha hO hx⟩
  | false =>
    refine (grp_bad K q d r w h1 hL h2.ready hf hi).mono ?_
    rintro x w' ⟨rfl, hB⟩
    exact ⟨⟨_, rfl⟩, gput_of h3 h4 h5 (h2.less (by omega)) rfl (h1.below hB) (Only.of_below hB) (fun x hx => .inl hx)⟩
end Go.Proofs.YteihfoacdocgkaaDoor

set_option linter.unusedVariables false
set_option linter.unusedSimpArgs false
namespace Go.Proofs.YteihfoacdocgkaaDoor
open Go.RowKit Pl Sh

theorem rowS_row {K : List Int} {row : List UInt8} {b : Bool} {id r : List UInt8} (h : rowS K row = some (b, id, r)) : r = row ∧ id.length = 32 := by
  unfold rowS at h
  by_cases hb : (asBlobS row).2 = true
  · rw [if_pos hb] at h
    simp only [Option.some.injEq, Prod.mk.injEq] at h
    exact ⟨h.2.2.symm, by rw [← h.2.1]; exact hashB_length _ _⟩
  · rw [if_neg hb] at h
    cases hr : asRecS row with
    | none => rw [hr] at h; cases h
    | some x =>
      rw [hr] at h
      simp only [Option.some.injEq, Prod.mk.injEq] at h
      exact ⟨h.2.2.symm, by rw [← h.2.1]; exact (asRec_fit hr).1.k⟩
theorem rdS_some {K : List Int} {t : List UInt8} {b : Bool} {id r : List UInt8} (h : rdS K t = some (b, id, r)) : r = t.drop 32 ∧ id.length = 32 ∧ t ≠ [] ∧ rowS K r = some (b, id, r) := by
  unfold rdS at h
  by_cases hc : 32 ≤ t.length ∧ textS K (t.drop 32) = t
  · rw [if_pos hc] at h
    obtain ⟨rfl, h2⟩ := rowS_row h
    exact ⟨rfl, h2, fun e => by rw [e] at hc; simp at hc, h⟩
  · rw [if_neg hc] at h; cases h
theorem ldS_inv (K : List Int) (s0 : St) : ∀ k, (∀ e ∈ (ldS s0 (rdS K) k).2.1, rowS K e.2.2.2.2 = some (e.1, e.2.1, e.2.2.2.2) ∧ e.2.2.2.1 ≤ ((ldS s0 (rdS K) k).2.1.length : Int)) ∧
    (ldS s0 (rdS K) k).2.1.Pairwise (fun x y => (x.1, x.2.1) ≠ (y.1, y.2.1)) ∧ (ldS s0 (rdS K) k).2.1.Pairwise (fun x y => x.2.2.2.1 ≠ y.2.2.2.1)
  | 0 => ⟨fun e he => by simp [ldS] at he, by simp [ldS], by simp [ldS]⟩
  | k + 1 => by
    obtain ⟨h1, h2, h3⟩ := ldS_inv K s0 k
    unfold ldS
    split
    · rename_i b i r hr
      split
      · exact ⟨h1, h2, h3⟩
      · rename_i hany
        refine ⟨fun e he => ?_, List.pairwise_append.2 ⟨h2, List.pairwise_singleton _ _, fun x hx y hy => ?_⟩, List.pairwise_append.2 ⟨h3, List.pairwise_singleton _ _, fun x hx y hy => ?_⟩⟩
        · rcases List.mem_append.1 he with he | he
          · obtain ⟨g1, g2⟩ := h1 e he
            exact ⟨g1, by simp only [List.length_append, List.length_singleton]; omega⟩
          · simp only [List.mem_singleton] at he
            subst he
            exact ⟨(rdS_some hr).2.2.2, by simp only [List.length_append, List.length_singleton]; omega⟩
        · simp only [List.mem_singleton] at hy
          subst hy
          intro e
          obtain ⟨e1, e2⟩ := Prod.mk.inj e
          exact hany (List.any_eq_true.2 ⟨x, hx, by simp only [] at e1 e2; simp [e1, e2]⟩)
        · simp only [List.mem_singleton] at hy
          subst hy
          have := (h1 x hx).2
          show x.2.2.2.1 ≠ (((ldS s0 (rdS K) k).2.1.length + 1 : Nat) : Int)
          omega
    · split
      · exact ⟨h1, h2, h3⟩
      · exact ⟨h1, h2, h3⟩
theorem ldS_life {s0 : St} {RD : RdF} {n a : Nat} (h : Works s0 n a) : ∀ k, k ≤ n → (ldS s0 RD k).1.pw.life = s0.pw.life
  | 0, _ => rfl
  | k + 1, hk => by
    have ih := ldS_life (RD := RD) h k (by omega)
    have hw := (ldS_works (RD := RD) h k (by omega)).1
    have hl := write_life hw (k := k) (by omega) [] (by decide)
    unfold ldS
    split
    · split
      · exact hl.trans ih
      · exact ih
    · split
      · exact ih
      · exact hl.trans ih
theorem ldEnd_works {s0 : St} {RD : RdF} {n a : Nat} (h : Works s0 n a) : Works (ldEnd s0 RD n) n (a + n + 1) ∧ (ldEnd s0 RD n).pw.life = s0.pw.life := by
  have hw := (ldS_works (RD := RD) h n (Nat.le_refl _)).1
  have hl := ldS_life (RD := RD) h n (Nat.le_refl _)
  unfold ldEnd
  split
  · exact ⟨(sync_works hw).2, (sync_life hw).trans hl⟩
  · exact ⟨hw.more (by omega), hl⟩
theorem read_small {s : St} (h : St.small s) (i : Int) : (St.read s i).length ≤ 640 := by
  unfold St.read
  split
  · simp
  · cases hq : s.slots[i.toNat]? with
    | none => simp
    | some x =>
      obtain ⟨hl, rfl⟩ := List.getElem?_eq_some_iff.1 hq
      exact (h _ hl).1
theorem ldS_small {s0 : St} {RD : RdF} (h : St.small s0) : ∀ k, St.small (ldS s0 RD k).1
  | 0 => h
  | k + 1 => by
    have ih := ldS_small (RD := RD) h k
    unfold ldS
    split
    · split
      · exact small_write ih _ _
      · exact ih
    · split
      · exact ih
      · exact small_write ih _ _
theorem ldEnd_small {s0 : St} {RD : RdF} (h : St.small s0) (n : Nat) : St.small (ldEnd s0 RD n) := by
  unfold ldEnd
  split
  · exact small_sync (ldS_small h n)
  · exact ldS_small h n
/-- Open: a store that works -/
theorem g_open (K : List Int) (n k a : Nat) (b g : Nat) (s : St) (w : World) (h : ShAt w b g s) (hL : Laid K w) (h0 : 0 ≠ b ∧ 0 ≠ g) (hw : Works s n a) (hn : n ≤ 128) (ha : a + n + 1 + 3 * k ≤ 900000) (hlow : s.pw.life + k < 50000)
    (hsm : St.small s) :
    Calls Tryd.prog 19 #[.pointer (some ⟨b, 0, none⟩)] w fun e w' => ∃ (q : HvP) (S : List Nat), q.b = b ∧ q.g = g ∧ e = .returned (.tuple #[.pointer (some ⟨q.p, 0, none⟩), .int .i64 0]) ∧ GBox K w' q n k [] S ∧ (∀ x ∈ S, x = b ∨ x = g ∨ w.heap.size ≤ x) ∧ Only [b, g] w w' := by
  have htl : ∀ i, i < n → (St.read s i).length ≤ 1000 := fun i _ => by have := read_small hsm i; omega
  refine (open_gen K (rdS K) n b g s w h hL h0 (hw.more (by omega)) hn (fun i hi W hW => hread_any K _ W hW (htl i hi)) (fun i hi b' id r hh => ?_)).mono ?_
  · obtain ⟨e1, e2, e3, -⟩ := rdS_some hh
    refine ⟨e2, ?_, e3⟩
    have := htl i hi
    rw [e1, List.length_drop]; omega
  · rintro e w' ⟨q, L, hb, hg, rfl, hLe, hat, hx, hO⟩
    obtain ⟨i1, i2, i3⟩ := ldS_inv K s n
    have hwk := ldS_works (RD := rdS K) hw n (Nat.le_refl _)
    have he := ldEnd_works (RD := rdS K) hw
    rw [← hLe] at i1 i2 i3
    rw [List.pairwise_map] at i2 i3
    have hlen : L.length ≤ n := by have := hwk.2.2.1; rw [← hLe, List.length_map] at this; exact this
    have hats : ∀ e ∈ L, e.at_ < n := fun e hm => by
      have := hwk.2.2.2
      rw [← hLe] at this
      exact this (e5 e) (List.mem_map.2 ⟨e, hm, rfl⟩)
    refine ⟨q, q.own L, hb, hg, rfl, ⟨_, hat, ⟨he.1.more (by omega), by omega, rfl, by show ((ldEnd s (rdS K) n).pw.life : Int) = (s.pw.life : Int); rw [he.2], by show L.length + k < 900000; omega, by show (s.pw.life : Int) + (k : Int) < 50000; omega, fun e hm => ?_, ?_, ?_, ldEnd_small hsm n⟩, rfl, fun x hx => hx, fun x hx => hat.lt x hx⟩, hx, hO⟩
    · have hm' : e5 e ∈ L.map e5 := List.mem_map.2 ⟨e, hm, rfl⟩
      obtain ⟨g1, g2⟩ := i1 _ hm'
      rw [List.length_map] at g2
      exact ⟨g1, hats e hm, g2⟩
    · exact i2
    · exact i3
end Go.Proofs.YteihfoacdocgkaaDoor

set_option linter.unusedVariables false
set_option linter.unusedSimpArgs false
namespace Go.Proofs.YteihfoacdocgkaaDoor
open Go.RowKit Pl Sh

theorem write_works {s : St} {n a : Nat} (h : Works s n a) (i : Int) (t : List UInt8) : Works (St.write s i t) n (a + 1) ∧ (St.write s i t).pw.life = s.pw.life := by
  unfold St.write
  split
  · exact ⟨h.more (by omega), rfl⟩
  · have hp : s.pw.act = { s.pw with acts := s.pw.acts + 1 } := by unfold Pw.act; rw [if_pos h.armed]
    rw [hp]
    exact ⟨⟨h.down, h.armed, by have := h.acts; show s.pw.acts + 1 ≤ a + 1; omega, h.life, by show (setNow s.slots i.toNat t).length = n; rw [setNow_length]; exact h.len⟩, rfl⟩
/-- a text is written from outside -/
theorem g_outside (K : List Int) (q : HvP) (n k : Nat) (pins : List (List UInt8)) (S : List Nat) (i : Int) (t : List UInt8) (w : World) (h : GBox K w q n (k + 1) pins S) (ht : t.length ≤ 9223372036854775807) :
    Calls Tryd.prog 38 #[.pointer (some ⟨q.b, 0, none⟩), .int .i64 i, .string ⟨t.toArray⟩] w fun r w' => (∃ er : Int, r = .returned (.int .i64 er)) ∧ GBox K w' q n k pins S ∧ Only S w w' := by
  obtain ⟨d, h1, h2, h3, h4, h5⟩ := h
  refine (write_any q.b q.g d.s i t w h1.sh (h2.works.fits (by omega)) ht).mono ?_
  rintro r w' ⟨rfl, hs, hO⟩
  have hsub : ∀ x ∈ [q.b, q.g], x ∈ S := fun x hx => by
    have hm := @own_mem q d.L
    simp only [List.mem_cons, List.not_mem_nil, or_false] at hx
    rcases hx with rfl | rfl
    · exact h4 _ hm.2.2.2.2.1
    · exact h4 _ hm.2.2.2.2.2.1
  have hw := write_works h2.works i t
  have h2' := h2.less (Nat.le_succ k)
  exact ⟨⟨_, rfl⟩, ⟨_, hv_shelf h1 hO hs, ⟨hw.1.more (by have := h2.room; omega), h2'.room, h2'.dead, by show ((St.write d.s i t).pw.life : Int) = _; rw [hw.2]; exact h2.life, h2'.clk, h2'.low, h2'.ents, h2'.names, h2'.useds, small_write h2.small i t⟩, h3, h4, fun x hx => Nat.lt_of_lt_of_le (h5 x hx) hO.size⟩, hO.mono hsub⟩
theorem off_on_works {s : St} {n a : Nat} (h : Works s n a) (hl : s.pw.life < 60000) (fs : List Int) : Works (St.on (St.off s) fs) n a ∧ (St.on (St.off s) fs).pw.life = s.pw.life + 1 := by
  have ho : (St.off s).pw = { s.pw with down := true, armed := 0, life := s.pw.life + 1 } := by
    unfold St.off Pw.off
    rw [if_neg (by simp [h.down])]
  unfold St.on
  rw [if_pos (by rw [ho]), ho]
  refine ⟨⟨rfl, rfl, h.acts, by show s.pw.life + 1 < 100000; omega, ?_⟩, rfl⟩
  show (((onl _ _ _).map sure1)).length = n
  rw [List.length_map, onl_length]
  exact h.len
theorem off_on_small {s : St} (h : St.small s) (fs : List Int) : St.small (St.on (St.off s) fs) := small_on (s := St.off s) h fs
/-- what of a store outlives the power: its shelf -/
def GShelf (K : List Int) (w : World) (b g n k : Nat) : Prop := ∃ s, ShAt w b g s ∧ Works s n (900000 - 3 * k) ∧ 3 * k ≤ 900000 ∧ s.pw.life + k < 50000 ∧ St.small s
theorem GBox.shelf {K : List Int} {w : World} {q : HvP} {n k : Nat} {pins : List (List UInt8)} {S : List Nat} (h : GBox K w q n k pins S) : GShelf K w q.b q.g n k := by
  obtain ⟨d, h1, h2, h3, h4, h5⟩ := h
  exact ⟨d.s, h1.sh, h2.works, h2.room, by have h6 := h2.low; have h7 := h2.life; omega, h2.small⟩
end Go.Proofs.YteihfoacdocgkaaDoor

set_option linter.unusedVariables false
set_option linter.unusedSimpArgs false
namespace Go.Proofs.YteihfoacdocgkaaDoor
open Go.RowKit Pl Sh
attribute [local go_sem] Lb.ba_get Lb.ba_cut Lb.ba_add Lb.ba_size Lb.take_rest

set_option maxHeartbeats 4000000 in
theorem nil_ready (w : World) : Calls Tryd.prog 66 #[.pointer none] w fun e w' => e = .returned (.int .i64 2) ∧ w = w' := by
  go_enter Tryd.func66, Tryd.ntmps66
  go_wp2_with fail
  go_ret
  exact ⟨rfl, rfl⟩
set_option maxHeartbeats 4000000 in
theorem nil_len (w : World) : Calls Tryd.prog 26 #[.pointer none] w fun e w' => e = .returned (.int .i64 0) ∧ w = w' := by
  go_enter Tryd.func26, Tryd.ntmps26
  go_wp2_with fail
  go_ret
  exact ⟨rfl, rfl⟩
set_option maxHeartbeats 4000000 in
theorem nil_keys (w : World) : Calls Tryd.prog 36 #[.pointer none] w fun e w' => e = .returned (.slice none 0 0) ∧ w = w' := by
  go_enter Tryd.func36, Tryd.ntmps36
  go_wp2_with fail
  go_ret
  exact ⟨rfl, rfl⟩
set_option maxHeartbeats 4000000 in
theorem nil_sync (w : World) : Calls Tryd.prog 32 #[.pointer none] w fun e w' => e = .returned (.int .i64 2) ∧ w = w' := by
  have hrd := Lib.hid (nil_ready w)
  go_enter Tryd.func32, Tryd.ntmps32
  go_wp2_with fail
  refine hrd.out.mono ?_
  rintro e w1 ⟨rfl, rfl⟩
  go_wp2_with fail
  go_ret
  exact ⟨rfl, rfl⟩
set_option maxHeartbeats 4000000 in
theorem nil_free (w : World) : Calls Tryd.prog 39 #[.pointer none] w fun e w' => e = .returned (.tuple #[]) ∧ w = w' := by
  go_enter Tryd.func39, Tryd.ntmps39
  go_wp2_with fail
  go_end0
  exact ⟨rfl, rfl⟩
set_option maxHeartbeats 4000000 in
theorem nil_pin (w : World) (v : Value) : Calls Tryd.prog 25 #[.pointer none, v] w fun e w' => e = .returned (.tuple #[]) ∧ w = w' := by
  go_enter Tryd.func25, Tryd.ntmps25
  go_wp2_with fail
  (try simp only [Exit.inBlock, Exit.then]); refine bodyPost_ret (results_none rfl _ _ _) rfl ?_
  exact ⟨rfl, rfl⟩
set_option maxHeartbeats 4000000 in
set_option maxRecDepth 100000 in
theorem nil_find (NC : Array Value) (w : World) : Calls Tryd.prog 70 #[.pointer none, .agg NC] w fun e w' => e = .returned (.tuple #[.string ⟨#[]⟩, .bool false]) ∧ Below w.heap.size w w' := by
  have hb := (Below.refl w.heap.size w).alloc (Nat.le_refl _) (.cells NC 127)
  have hrd := Lib.hid (fun W => nil_ready W)
  have HB := Lib.hid hb
  clear hb
  go_enter Tryd.func70, Tryd.ntmps70
  go_upto_region 1 with fail
  obtain ⟨w1, hw1⟩ : ∃ y, y = w.alloc (.cells NC 127) := ⟨_, rfl⟩
  obtain ⟨n0, hn⟩ : ∃ y, y = w.heap.size := ⟨_, rfl⟩
  rw [← hw1, ← hn]
  have HB1 : Hid (Below w.heap.size w w1) := Lib.hid (by rw [hw1]; exact HB.out)
  clear HB hw1 hn
  refine wp_region_held_drew (S := fun w' => Below w1.heap.size w1 w') (by kernel_rfl) ((Below.refl _ _).drew) (fun hH0 => ?_)
  obtain ⟨W0, hW0⟩ : ∃ W, W = w1.drew := ⟨_, rfl⟩
  rw [← hW0] at hH0 ⊢
  clear hW0
  refine wpAnyH_take (i := 0) (v := ?_) rfl (by kernel_rfl) (by kernel_rfl) (by kernel_rfl) (fun _ _ _ h => h) (Or.inl ⟨by kernel_rfl, ?_⟩) hH0 ?_
  rotate_left 1
  · intro w hSw
    go_simp
    try with_reducible rfl
  try simp only [Act.put, List.getElem_toArray, List.getElem_cons_zero, List.getElem_cons_succ, List.setIfInBounds_toArray, List.set_cons_zero, List.set_cons_succ]
  refine wpAnyH_ready (rs := [1]) (by kernel_rfl) (by simp) ?_
  refine AllReadyH.cons rfl (fun K_ hK => ?_) ?_
  · go_simp
    refine (hrd.out W0).mono ?_
    rintro e W1 ⟨rfl, rfl⟩
    have hS1 := hH0
    refine hK.out _ _ hS1 (fun hH1 => ?_)
    clear hK K_
    try simp only [Act.put, List.getElem_toArray, List.getElem_cons_zero, List.getElem_cons_succ, List.setIfInBounds_toArray, List.set_cons_zero, List.set_cons_succ]
    refine wpAnyH_take (i := 2) (v := ?_) rfl (by kernel_rfl) (by kernel_rfl) (by kernel_rfl) (fun _ _ _ h => h) (Or.inl ⟨by kernel_rfl, ?_⟩) hH1 ?_
    rotate_left 1
    · intro w hSw
      go_simp
      try with_reducible rfl
    try simp only [Act.put, List.getElem_toArray, List.getElem_cons_zero, List.getElem_cons_succ, List.setIfInBounds_toArray, List.set_cons_zero, List.set_cons_succ]
    refine wpAnyH_take (i := 3) (v := ?_) rfl (by kernel_rfl) (by kernel_rfl) (by kernel_rfl) (fun _ _ _ h => h) (Or.inl ⟨by kernel_rfl, ?_⟩) hH1 ?_
    rotate_left 1
    · intro w hSw
      go_simp
      try with_reducible rfl
    try simp only [Act.put, List.getElem_toArray, List.getElem_cons_zero, List.getElem_cons_succ, List.setIfInBounds_toArray, List.set_cons_zero, List.set_cons_succ]
    refine wpAnyH_take (i := 4) (v := undef) rfl (by kernel_rfl) (by kernel_rfl) (by kernel_rfl) (fun _ _ _ h => h) (Or.inr ⟨by kernel_rfl, rfl⟩) hH1 ?_
    try simp only [Act.put, List.getElem_toArray, List.getElem_cons_zero, List.getElem_cons_succ, List.setIfInBounds_toArray, List.set_cons_zero, List.set_cons_succ]
    refine wpAnyH_take (i := 5) (v := undef) rfl (by kernel_rfl) (by kernel_rfl) (by kernel_rfl) (fun _ _ _ h => h) (Or.inr ⟨by kernel_rfl, rfl⟩) hH1 ?_
    try simp only [Act.put, List.getElem_toArray, List.getElem_cons_zero, List.getElem_cons_succ, List.setIfInBounds_toArray, List.set_cons_zero, List.set_cons_succ]
    refine wpAnyH_take (i := 6) (v := undef) rfl (by kernel_rfl) (by kernel_rfl) (by kernel_rfl) (fun _ _ _ h => h) (Or.inr ⟨by kernel_rfl, rfl⟩) hH1 ?_
    try simp only [Act.put, List.getElem_toArray, List.getElem_cons_zero, List.getElem_cons_succ, List.setIfInBounds_toArray, List.set_cons_zero, List.set_cons_succ]
    refine wpAnyH_take (i := 7) (v := undef) rfl (by kernel_rfl) (by kernel_rfl) (by kernel_rfl) (fun _ _ _ h => h) (Or.inr ⟨by kernel_rfl, rfl⟩) hH1 ?_
    try simp only [Act.put, List.getElem_toArray, List.getElem_cons_zero, List.getElem_cons_succ, List.setIfInBounds_toArray, List.set_cons_zero, List.set_cons_succ]
    refine wpAnyH_take (i := 8) (v := undef) rfl (by kernel_rfl) (by kernel_rfl) (by kernel_rfl) (fun _ _ _ h => h) (Or.inr ⟨by kernel_rfl, rfl⟩) hH1 ?_
    try simp only [Act.put, List.getElem_toArray, List.getElem_cons_zero, List.getElem_cons_succ, List.setIfInBounds_toArray, List.set_cons_zero, List.set_cons_succ]
    refine wpAnyH_take (i := 9) (v := undef) rfl (by kernel_rfl) (by kernel_rfl) (by kernel_rfl) (fun _ _ _ h => h) (Or.inr ⟨by kernel_rfl, rfl⟩) hH1 ?_
    try simp only [Act.put, List.getElem_toArray, List.getElem_cons_zero, List.getElem_cons_succ, List.setIfInBounds_toArray, List.set_cons_zero, List.set_cons_succ]
    refine wpAnyH_take (i := 10) (v := undef) rfl (by kernel_rfl) (by kernel_rfl) (by kernel_rfl) (fun _ _ _ h => h) (Or.inr ⟨by kernel_rfl, rfl⟩) hH1 ?_
    try simp only [Act.put, List.getElem_toArray, List.getElem_cons_zero, List.getElem_cons_succ, List.setIfInBounds_toArray, List.set_cons_zero, List.set_cons_succ]
    refine wpAnyH_take (i := 11) (v := ?_) rfl (by kernel_rfl) (by kernel_rfl) (by kernel_rfl) (fun _ _ _ h => h) (Or.inl ⟨by kernel_rfl, ?_⟩) hH1 ?_
    rotate_left 1
    · intro w hSw
      go_simp
      try with_reducible rfl
    try simp only [Act.put, List.getElem_toArray, List.getElem_cons_zero, List.getElem_cons_succ, List.setIfInBounds_toArray, List.set_cons_zero, List.set_cons_succ]
    refine wpAnyH_done (by kernel_rfl) ?_ _
    have HBx := Lib.hid (HB1.out.trans (hH1.mono HB1.out.size))
    clear hH1
    go_wp2_with fail
    go_ret2
    exact ⟨rfl, HBx.out⟩
  exact AllReadyH.nil
set_option maxHeartbeats 4000000 in
set_option maxRecDepth 100000 in
theorem nil_blob (dg : List UInt8) (w : World) (hdg : dg.length = 32) : Calls Tryd.prog 27 #[.pointer none, .agg (byV dg).toArray] w fun e w' => e = .returned (.tuple #[.string ⟨#[]⟩, .bool false]) ∧ Below w.heap.size w w' := by
  have hb1 := (Below.refl w.heap.size w).alloc (Nat.le_refl _) (.cells (byV dg).toArray 23)
  have hn0 := heap_alloc_new w (.cells (byV dg).toArray 23)
  obtain ⟨w1, hw1⟩ : ∃ y, y = w.alloc (.cells (byV dg).toArray 23) := ⟨_, rfl⟩
  obtain ⟨n0, hn⟩ : ∃ y, y = w.heap.size := ⟨_, rfl⟩
  rw [← hw1] at hn0 hb1
  rw [← hn] at hn0
  have hbu := built_name true dg hdg
  obtain ⟨DV, hDV⟩ : ∃ x, x = (byV dg).toArray := ⟨_, rfl⟩
  have dix : (Tryd.prog.info? 23).map (·.size) = some DV.size := by rw [hDV, dig_info]; simp [byV_length, hdg]
  have dund := Tryd.underlying23
  rw [← hDV] at hbu hn0 ⊢
  obtain ⟨NV, hNV⟩ : ∃ x, x = (Value.bool true :: byV dg).toArray := ⟨_, rfl⟩
  rw [← hNV] at hbu
  have Hn0 := Lib.hid hn0
  have Hb1 := Lib.hid hb1
  have Hn := Lib.hid hn
  have Hw1 := Lib.hid (show w1 = w.alloc (.cells DV 23) by rw [hDV]; exact hw1)
  have hfind := Lib.hid (nil_find NV w1)
  clear hb1 hn0 hn hw1 hDV hNV hdg
  go_enter Tryd.func27, Tryd.ntmps27
  go_upto_region 1 with fail
  rw [← Hw1.out, ← Hn.out]
  go_wp2_with (first
    | (refine wpList_load_row rfl 23 _ rfl n0 rfl 23 DV (0, 0) _ Hn0.out dund rfl dix ?_)
    | (refine wpList_build2 rfl 127 _ _ _ _ rfl _ _ rfl rfl _ hbu ?_))
  refine hfind.out.mono ?_
  rintro r w2 ⟨rfl, hB2⟩
  have B2 := Lib.hid (Hb1.out.trans (hB2.mono Hb1.out.size))
  clear hB2 hfind
  go_wp2_with fail
  go_ret2
  exact ⟨rfl, B2.out⟩
set_option maxHeartbeats 4000000 in
set_option maxRecDepth 100000 in
theorem nil_putrec (R : Array Value) (w : World) : Calls Tryd.prog 31 #[.pointer none, .agg R] w fun e w' => e = .returned (.int .i64 2) ∧ Below w.heap.size w w' := by
  have hb1 := Lib.hid ((Below.refl w.heap.size w).alloc (Nat.le_refl _) (.cells R 26))
  have hrd := Lib.hid (fun W => nil_ready W)
  go_enter Tryd.func31, Tryd.ntmps31
  go_wp2_with fail
  refine (hrd.out _).mono ?_
  rintro e w2 ⟨rfl, rfl⟩
  go_wp2_with fail
  go_ret
  exact ⟨rfl, hb1.out⟩
set_option maxHeartbeats 4000000 in
set_option maxRecDepth 100000 in
theorem nil_putblob (b : List UInt8) (w : World) : Calls Tryd.prog 23 #[.pointer none, .string ⟨b.toArray⟩] w fun e w' => e = .returned (.tuple #[.agg (digV (List.replicate 32 0)), .int .i64 2]) ∧ Below w.heap.size w w' := by
  have hb1 := (Below.refl w.heap.size w).alloc (Nat.le_refl _) (.cells (digV (List.replicate 32 0)) 23)
  have hn0 := heap_alloc_new w (.cells (digV (List.replicate 32 0)) 23)
  obtain ⟨w1, hw1⟩ : ∃ y, y = w.alloc (.cells (digV (List.replicate 32 0)) 23) := ⟨_, rfl⟩
  obtain ⟨n0, hn⟩ : ∃ y, y = w.heap.size := ⟨_, rfl⟩
  rw [← hw1] at hn0 hb1
  rw [← hn] at hn0
  have hbd := built_dig0
  have dund := Tryd.underlying23
  obtain ⟨DV, hDV⟩ : ∃ v, v = digV (List.replicate 32 0) := ⟨_, rfl⟩
  have dixA : (Tryd.prog.info? 23).map (·.size) = some DV.size := by rw [hDV, dig_info]; rfl
  have hone : DV.all (·.oneCell') = true := by rw [hDV]; exact digV_one _
  rw [← hDV] at hbd hn0
  have HDV := Lib.hid hDV
  have hrd := Lib.hid (nil_ready w1)
  have Hn0 := Lib.hid hn0
  have Hb1 := Lib.hid hb1
  have Hn := Lib.hid hn
  have Hw1 := Lib.hid hw1
  clear hb1 hn0 hn hw1 hDV
  go_enter Tryd.func23, Tryd.ntmps23
  go_upto_region 1 with fail
  show Code.wp _ _ _ _ (w.alloc (.cells (digV (List.replicate 32 0)) 23))
  rw [← Hw1.out, ← Hn.out]
  go_wp2_with fail
  refine hrd.out.mono ?_
  rintro r w2 ⟨rfl, rfl⟩
  go_wp2_with (first
    | (refine wpList_build0' rfl 23 rfl DV hbd ?_)
    | (refine wpList_store_row rfl 23 _ _ rfl n0 DV rfl rfl 23 DV Hn0.out dixA rfl hone ?_))
  (try simp only [Exit.inBlock, Exit.then])
  refine bodyPost_ret (results_cell_row2 rfl _ _ n0 23 DV (0, 0) _ rfl (setRow_heap _ _ _ _ _ _ Hn0.out) dund rfl dixA) rfl ?_
  rw [← HDV.out]
  exact ⟨rfl, Hb1.out.trans (((Only.refl [n0] w1).setRow (by simp) _).below Hb1.out.size (by intro x hx; simp at hx; rw [hx, Hn.out]; exact Nat.le_refl _))⟩
end Go.Proofs.YteihfoacdocgkaaDoor
