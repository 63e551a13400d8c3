/-
  Layer 5: a store that is opened on a new shelf; how pins are laid, plain.
-/
import Derived.Test.YteihfoacdocgkaaDoorHwA
set_option linter.unusedVariables false
set_option linter.unusedSimpArgs false
namespace Go.Proofs.YteihfoacdocgkaaDoor
open Go.RowKit Pl Sh

def blobE (e : HEnt) : List UInt8 := (asBlobS e.row).1
/-- an entry of a blob, in its slot -/
def EntOk (K : List Int) (d : HvD) (n : Nat) (e : HEnt) : Prop := ∃ b, b.length ≤ 512 ∧ e.isB = true ∧ e.id = hashB K b ∧ e.row = blobRowS b ∧ e.at_ < n ∧ St.read d.s e.at_ = textS K e.row ∧ e.used ≤ (d.clk : Int)
theorem EntOk.blob {K : List Int} {d : HvD} {n : Nat} {e : HEnt} (h : EntOk K d n e) : (blobE e).length ≤ 512 ∧ e.isB = true ∧ e.id = hashB K (blobE e) ∧ e.row = blobRowS (blobE e) ∧ asBlobS e.row = (blobE e, true) := by
  obtain ⟨b, h1, h2, h3, h4, -⟩ := h
  have hb : asBlobS e.row = (b, true) := by rw [h4]; exact asBlob_blob b h1
  have he : blobE e = b := by unfold blobE; rw [hb]
  rw [he]
  exact ⟨h1, h2, h3, h4, hb⟩
/-- a store of n slots that works, bears k calls yet, and holds the blobs of a line -/
structure BSt (K : List Int) (d : HvD) (n k : Nat) (line : List (List UInt8)) : Prop where
  works : Works d.s n (900000 - 3 * k)
  room : 3 * k ≤ 900000
  dead : d.dead = false
  life : (d.s.pw.life : Int) = d.life
  clk : d.clk + k < 900000
  low : d.life < 50000
  ents : ∀ e ∈ d.L, EntOk K d n e
  ids : d.L.Pairwise (fun x y => x.id ≠ y.id)
  line : ∃ Ls : List HEnt, Ls.Perm d.L ∧ Ls.Pairwise (fun x y => x.used < y.used) ∧ Ls.map blobE = line
theorem BSt.ready {K : List Int} {d : HvD} {n k : Nat} {line : List (List UInt8)} (h : BSt K d n k line) : d.ready := ⟨h.dead, h.works.down, h.life⟩
theorem BSt.less {K : List Int} {d : HvD} {n k k' : Nat} {line : List (List UInt8)} (h : BSt K d n k line) (hk : k' ≤ k) : BSt K d n k' line :=
  ⟨h.works.more (by have := h.room; omega), by have := h.room; omega, h.dead, h.life, by have := h.clk; omega, h.low, h.ents, h.ids, h.line⟩
theorem BSt.len {K : List Int} {d : HvD} {n k : Nat} {line : List (List UInt8)} (h : BSt K d n k line) : line.length = d.L.length := by
  obtain ⟨Ls, h1, -, h3⟩ := h.line
  rw [← h3, List.length_map]; exact h1.length_eq
theorem BSt.mem {K : List Int} {d : HvD} {n k : Nat} {line : List (List UInt8)} (h : BSt K d n k line) (b : List UInt8) : b ∈ line ↔ ∃ e ∈ d.L, blobE e = b := by
  obtain ⟨Ls, h1, -, h3⟩ := h.line
  rw [← h3, List.mem_map]
  constructor
  · rintro ⟨e, he, rfl⟩; exact ⟨e, h1.mem_iff.1 he, rfl⟩
  · rintro ⟨e, he, rfl⟩; exact ⟨e, h1.mem_iff.2 he, rfl⟩
theorem pw_used {Ls L : List HEnt} (h : Ls.Perm L) (hp : Ls.Pairwise (fun x y => x.used < y.used)) : L.Pairwise (fun x y => x.used ≠ y.used) := by
  have h1 : Ls.Pairwise (fun x y => x.used ≠ y.used) := hp.imp (fun hlt => by omega)
  exact (h.pairwise_iff (fun {x y} hne => Ne.symm hne)).1 h1
theorem pw_eq {α β : Type} (f : α → β) : ∀ {L : List α}, L.Pairwise (fun x y => f x ≠ f y) → ∀ {x y : α}, x ∈ L → y ∈ L → f x = f y → x = y
  | [], _, x, y, hx, _, _ => by cases hx
  | a :: L, hp, x, y, hx, hy, he => by
    obtain ⟨h1, h2⟩ := List.pairwise_cons.1 hp
    rcases List.mem_cons.1 hx with ex | hx'
    · rcases List.mem_cons.1 hy with ey | hy'
      · rw [ex, ey]
      · exact absurd (ex ▸ he) (h1 y hy')
    · rcases List.mem_cons.1 hy with ey | hy'
      · exact absurd (ey ▸ he.symm) (h1 x hx')
      · exact pw_eq f h2 hx' hy' he
theorem perm_erase {α : Type} : ∀ {L : List α} {j : Nat} {e : α}, L[j]? = some e → (e :: L.eraseIdx j).Perm L
  | [], j, e, h => by simp at h
  | a :: L, 0, e, h => by
    have : a = e := by simpa using h
    subst this
    simp
  | a :: L, j + 1, e, h => by
    have h' : L[j]? = some e := by simpa using h
    rw [List.eraseIdx_cons_succ]
    exact (List.Perm.swap a e _).trans ((perm_erase h').cons a)
theorem perm_set {α : Type} : ∀ {L : List α} {j : Nat} {e : α} (a : α), L[j]? = some e → (L.set j a).Perm (a :: L.eraseIdx j)
  | [], j, e, a, h => by simp at h
  | b :: L, 0, e, a, h => by simp
  | b :: L, j + 1, e, a, h => by
    have h' : L[j]? = some e := by simpa using h
    rw [List.eraseIdx_cons_succ, List.set_cons_succ]
    exact ((perm_set a h').cons b).trans (List.Perm.swap a b _)
/-- an entry goes: of the line too -/
theorem line_erase {K : List Int} {d : HvD} {n k j : Nat} {e : HEnt} {line : List (List UInt8)} (h : BSt K d n k line) (hj : d.L[j]? = some e) :
    ∃ Ls : List HEnt, Ls.Perm (d.L.eraseIdx j) ∧ Ls.Pairwise (fun x y => x.used < y.used) ∧ Ls.map blobE = line.filter (fun x => decide (x ≠ blobE e)) := by
  obtain ⟨Ls, h1, h2, h3⟩ := h.line
  obtain ⟨hjl, hje⟩ := List.getElem?_eq_some_iff.1 hj
  have hu := pw_used h1 h2
  have he : e ∈ d.L := List.mem_of_getElem? hj
  have hp1 : (e :: d.L.eraseIdx j).Perm d.L := perm_erase hj
  have hu2 := (hp1.pairwise_iff (fun {x y} (hne : x.used ≠ y.used) => Ne.symm hne)).2 hu
  obtain ⟨hu3, -⟩ := List.pairwise_cons.1 hu2
  have hf : (d.L.filter (fun x => decide (x.used ≠ e.used))).Perm (d.L.eraseIdx j) := by
    have h4 := (hp1.symm.filter (fun x => decide (x.used ≠ e.used)))
    rw [List.filter_cons_of_neg (by simp), List.filter_eq_self (l := d.L.eraseIdx j) |>.2 (fun x hx => by simpa using fun e1 => hu3 x hx e1.symm)] at h4
    exact h4
  refine ⟨Ls.filter (fun x => decide (x.used ≠ e.used)), (h1.filter _).trans hf, h2.filter _, ?_⟩
  rw [← h3, List.filter_map]
  congr 1
  refine List.filter_congr (fun x hx => ?_)
  have hxL := h1.mem_iff.1 hx
  have hb : x.used ≠ e.used ↔ blobE x ≠ blobE e := by
    constructor
    · intro hne hbe
      have hid : x.id = e.id := by rw [(h.ents x hxL).blob.2.2.1, (h.ents e he).blob.2.2.1, hbe]
      exact hne (by rw [pw_eq (fun x : HEnt => x.id) h.ids hxL he hid])
    · intro hne hue
      exact hne (by rw [pw_eq (fun x : HEnt => x.used) hu hxL he hue])
  simp only [Function.comp]
  exact decide_eq_decide.2 hb

def mv (line : List (List UInt8)) (b : List UInt8) : List (List UInt8) := line.filter (fun x => decide (x ≠ b)) ++ [b]
theorem ids_erase {L : List HEnt} (h : L.Pairwise (fun x y => x.id ≠ y.id)) (j : Nat) : (L.eraseIdx j).Pairwise (fun x y => x.id ≠ y.id) := h.sublist (List.eraseIdx_sublist _ _)
/-- an entry is used -/
theorem bst_use {K : List Int} {d : HvD} {n k j : Nat} {e : HEnt} {line : List (List UInt8)} (h : BSt K d n (k + 1) line) (hj : d.L[j]? = some e) :
    BSt K { d with L := d.L.set j { e with used := ((d.clk + 1 : Nat) : Int) }, clk := d.clk + 1 } n k (mv line (blobE e)) := by
  obtain ⟨Ls, h1, h2, h3⟩ := line_erase h hj
  have he : e ∈ d.L := List.mem_of_getElem? hj
  obtain ⟨e', he'⟩ : ∃ x : HEnt, x = { e with used := ((d.clk + 1 : Nat) : Int) } := ⟨_, rfl⟩
  have hps : (d.L.set j e').Perm (e' :: d.L.eraseIdx j) := perm_set e' hj
  have hpe := perm_erase hj
  rw [← he']
  have hmem : ∀ x ∈ d.L.set j e', x = e' ∨ x ∈ d.L := fun x hx => by
    rcases List.mem_cons.1 (hps.mem_iff.1 hx) with h | h
    · exact .inl h
    · exact .inr (List.mem_of_mem_eraseIdx h)
  have hlt : ∀ x ∈ Ls, x.used < e'.used := fun x hx => by
    obtain ⟨b, -, -, -, -, -, -, hu⟩ := h.ents x (List.mem_of_mem_eraseIdx (h1.mem_iff.1 hx))
    rw [he']
    show x.used < ((d.clk + 1 : Nat) : Int)
    omega
  refine ⟨h.works.more (by have := h.room; omega), by have := h.room; omega, h.dead, h.life, by have := h.clk; show d.clk + 1 + k < _; omega, h.low, fun x hx => ?_, ?_, ⟨Ls ++ [e'], ?_, ?_, ?_⟩⟩
  · rcases hmem x hx with rfl | hx
    · obtain ⟨b, g1, g2, g3, g4, g5, g6, g7⟩ := h.ents e he
      exact ⟨b, g1, by rw [he']; exact g2, by rw [he']; exact g3, by rw [he']; exact g4, by rw [he']; exact g5, by rw [he']; exact g6, by rw [he']; exact Int.le_refl _⟩
    · obtain ⟨b, g1, g2, g3, g4, g5, g6, g7⟩ := h.ents x hx
      exact ⟨b, g1, g2, g3, g4, g5, g6, by show x.used ≤ ((d.clk + 1 : Nat) : Int); omega⟩
  · have hp := (hpe.pairwise_iff (fun {x y} (hne : x.id ≠ y.id) => Ne.symm hne)).2 h.ids
    obtain ⟨g1, g2⟩ := List.pairwise_cons.1 hp
    exact (hps.pairwise_iff (fun {x y} (hne : x.id ≠ y.id) => Ne.symm hne)).2 (List.pairwise_cons.2 ⟨fun y hy => by rw [he']; exact g1 y hy, g2⟩)
  · exact ((List.perm_append_comm).trans (h1.cons e')).trans hps.symm
  · exact List.pairwise_append.2 ⟨h2, List.pairwise_singleton _ _, fun x hx y hy => by simp only [List.mem_singleton] at hy; subst hy; exact hlt x hx⟩
  · rw [List.map_append, h3]
    have : blobE e' = blobE e := by rw [he']; rfl
    simp only [List.map_cons, List.map_nil, this]
    rfl
/-- an entry more -/
theorem bst_add {K : List Int} {d : HvD} {n k : Nat} {line : List (List UInt8)} {s2 : St} {m blk : Nat} {b : List UInt8} (h : BSt K d n (k + 1) line) (hb : b.length ≤ 512) (hm : m < n) (hs : Works s2 n (900000 - 3 * k)) (hl : (s2.pw.life : Int) = d.life)
    (hr : St.read s2 m = textS K (blobRowS b)) (hr2 : ∀ e ∈ d.L, St.read s2 e.at_ = St.read d.s e.at_) (hne : ∀ e ∈ d.L, e.id ≠ hashB K b) :
    BSt K { d with s := s2, L := d.L ++ [⟨true, hashB K b, m, ((d.clk + 1 : Nat) : Int), blobRowS b, blk⟩], clk := d.clk + 1 } n k (line ++ [b]) := by
  obtain ⟨Ls, h1, h2, h3⟩ := h.line
  obtain ⟨e', he'⟩ : ∃ x : HEnt, x = ⟨true, hashB K b, m, ((d.clk + 1 : Nat) : Int), blobRowS b, blk⟩ := ⟨_, rfl⟩
  rw [← he']
  have hbe : blobE e' = b := by unfold blobE; rw [he']; show (asBlobS (blobRowS b)).1 = b; rw [asBlob_blob b hb]
  refine ⟨hs, by have := h.room; omega, h.dead, hl, by have := h.clk; show d.clk + 1 + k < _; omega, h.low, fun x hx => ?_, ?_, ⟨Ls ++ [e'], h1.append_right _, ?_, by rw [List.map_append, h3]; simp [hbe]⟩⟩
  · rcases List.mem_append.1 hx with hx | hx
    · obtain ⟨b2, g1, g2, g3, g4, g5, g6, g7⟩ := h.ents x hx
      exact ⟨b2, g1, g2, g3, g4, g5, by show St.read s2 x.at_ = _; rw [hr2 x hx]; exact g6, by show x.used ≤ ((d.clk + 1 : Nat) : Int); omega⟩
    · simp only [List.mem_singleton] at hx
      subst hx
      exact ⟨b, hb, by rw [he'], by rw [he'], by rw [he'], by rw [he']; exact hm, by rw [he']; exact hr, by rw [he']; exact Int.le_refl _⟩
  · exact List.pairwise_append.2 ⟨h.ids, List.pairwise_singleton _ _, fun x hx y hy => by simp only [List.mem_singleton] at hy; subst hy; rw [he']; exact hne x hx⟩
  · exact List.pairwise_append.2 ⟨h2, List.pairwise_singleton _ _, fun x hx y hy => by
      simp only [List.mem_singleton] at hy
      subst hy
      obtain ⟨b2, -, -, -, -, -, -, hu⟩ := h.ents x (h1.mem_iff.1 hx)
      rw [he']
      show x.used < ((d.clk + 1 : Nat) : Int)
      omega⟩
/-- an entry is thrown out -/
theorem bst_out {K : List Int} {d : HvD} {n k j : Nat} {e : HEnt} {line : List (List UInt8)} {s2 : St} (h : BSt K d n (k + 1) line) (hj : d.L[j]? = some e) (hs : Works s2 n (900000 - 3 * k - 1)) (hl : (s2.pw.life : Int) = d.life)
    (hr2 : ∀ x ∈ d.L.eraseIdx j, St.read s2 x.at_ = St.read d.s x.at_) :
    BSt K { d with s := s2, L := d.L.eraseIdx j } n k (line.filter (fun x => decide (x ≠ blobE e))) := by
  refine ⟨hs.more (by omega), by have := h.room; omega, h.dead, hl, by have := h.clk; show d.clk + k < _; omega, h.low, fun x hx => ?_, ids_erase h.ids j, line_erase h hj⟩
  obtain ⟨b2, g1, g2, g3, g4, g5, g6, g7⟩ := h.ents x (List.mem_of_mem_eraseIdx hx)
  exact ⟨b2, g1, g2, g3, g4, g5, by show St.read s2 x.at_ = _; rw [hr2 x hx]; exact g6, g7⟩
end Go.Proofs.YteihfoacdocgkaaDoor

set_option linter.unusedVariables false
set_option linter.unusedSimpArgs false
namespace Go.Proofs.YteihfoacdocgkaaDoor
open Go.RowKit Pl Sh
attribute [local go_sem] Lb.ba_get Lb.ba_cut Lb.ba_add Lb.ba_size Lb.take_rest

/-- a store of blobs in memory, all of whose blocks are among S -/
def BoxAt (K : List Int) (w : World) (q : HvP) (n k : Nat) (line pins : List (List UInt8)) (S : List Nat) : Prop := ∃ d, HvAt w q d ∧ BSt K d n k line ∧ d.pins = pins ∧ (∀ x ∈ q.own d.L, x ∈ S) ∧ ∀ x ∈ S, x < w.heap.size
theorem BoxAt.below {K : List Int} {w w' : World} {q : HvP} {n k : Nat} {line pins : List (List UInt8)} {S : List Nat} (h : BoxAt K w q n k line pins S) (hb : Below w.heap.size w w') : BoxAt K w' q n k line pins S := by
  obtain ⟨d, h1, h2, h3, h4, h5⟩ := h
  exact ⟨d, h1.below hb, h2, h3, h4, fun x hx => Nat.lt_of_lt_of_le (h5 x hx) hb.size⟩
theorem BoxAt.less {K : List Int} {w : World} {q : HvP} {n k k' : Nat} {line pins : List (List UInt8)} {S : List Nat} (h : BoxAt K w q n k line pins S) (hk : k' ≤ k) : BoxAt K w q n k' line pins S := by
  obtain ⟨d, h1, h2, h3, h4, h5⟩ := h
  exact ⟨d, h1, h2.less hk, h3, h4, h5⟩
theorem digV_byV (o : List UInt8) : (byV o).toArray = digV o := rfl
theorem box_yes {K : List Int} {w : World} {q : HvP} {n k : Nat} {line pins : List (List UInt8)} {S : List Nat} {b : List UInt8} (h : BoxAt K w q n (k + 1) line pins S) (hL : Laid K w) (hb : b ∈ line) :
    Calls Tryd.prog 27 #[.pointer (some ⟨q.p, 0, none⟩), .agg (digV (hashB K b))] w fun r w' => r = .returned (.tuple #[.string ⟨b.toArray⟩, .bool true]) ∧ BoxAt K w' q n k (mv line b) pins S ∧ Only S w w' := by
  obtain ⟨d, h1, h2, h3, h4, h5⟩ := h
  obtain ⟨e, he, rfl⟩ := (h2.mem b).1 hb
  obtain ⟨j, hj⟩ := List.mem_iff_getElem?.1 he
  obtain ⟨g1, g2, g3, g4, g5⟩ := (h2.ents e he).blob
  have htx : St.read d.s e.at_ = textS K e.row := by obtain ⟨b, -, -, -, -, -, g, -⟩ := h2.ents e he; exact g
  have hc := gblob_yes K q d j e (hashB K (blobE e)) w h1 hL h2.ready (hashB_length _ _) hj g2 g3 (by have := h2.clk; omega) htx
  refine hc.mono ?_
  rintro r w' ⟨rfl, ha, hO⟩
  exact ⟨by rw [g5], ⟨_, ha, bst_use h2 hj, h3, fun x hx => h4 x (by rw [own_use hj] at hx; exact hx), fun x hx => Nat.lt_of_lt_of_le (h5 x hx) hO.size⟩, hO.mono h4⟩
theorem box_no {K : List Int} {w : World} {q : HvP} {n k : Nat} {line pins : List (List UInt8)} {S : List Nat} {b : List UInt8} (h : BoxAt K w q n k line pins S) (hL : Laid K w) (hb : ∀ x ∈ line, hashB K x ≠ hashB K b) :
    Calls Tryd.prog 27 #[.pointer (some ⟨q.p, 0, none⟩), .agg (digV (hashB K b))] w fun r w' => r = .returned (.tuple #[.string ⟨#[]⟩, .bool false]) ∧ BoxAt K w' q n k line pins S ∧ Below w.heap.size w w' := by
  obtain ⟨d, h1, h2, h3, h4, h5⟩ := h
  have hno : ∀ e ∈ d.L, (e.isB, e.id) ≠ (true, hashB K b) := fun e he h => by
    obtain ⟨-, -, g3, -⟩ := (h2.ents e he).blob
    exact hb (blobE e) ((h2.mem _).2 ⟨e, he, rfl⟩) (by rw [← g3]; exact (Prod.mk.inj h).2)
  refine (gblob_no K q d (hashB K b) w h1 hL h2.ready (hashB_length _ _) hno).mono ?_
  rintro r w' ⟨rfl, hB⟩
  exact ⟨rfl, ⟨d, h1.below hB, h2, h3, h4, fun x hx => Nat.lt_of_lt_of_le (h5 x hx) hB.size⟩, hB⟩
theorem BSt.repin {K : List Int} {d : HvD} {n k : Nat} {line : List (List UInt8)} (h : BSt K d n k line) (pins : List (List UInt8)) : BSt K { d with pins := pins } n k line := ⟨h.works, h.room, h.dead, h.life, h.clk, h.low, h.ents, h.ids, h.line⟩
theorem box_pin {K : List Int} {w : World} {q : HvP} {n k : Nat} {line pins : List (List UInt8)} {S : List Nat} {A : Option Addr} {cap : Nat} {ds : List (List UInt8)} (h : BoxAt K w q n k line pins S) (hD : Digs w w.heap.size A ds) (hA : ∀ a, A = some a → a.block ∉ S) (hn : ds.length ≤ maxLen) (h32 : ∀ x ∈ ds, x.length = 32) :
    Calls Tryd.prog 25 #[.pointer (some ⟨q.p, 0, none⟩), .slice A ds.length cap] w fun r w' => r = .returned (.tuple #[]) ∧ BoxAt K w' q n k line (pinsAt pins ds ds.length) S ∧ Only S w w' := by
  obtain ⟨d, h1, h2, h3, h4, h5⟩ := h
  refine (pin_any q d A cap ds w h1 hD (fun a ha hm => hA a ha (h4 _ hm)) hn h32).mono ?_
  rintro r w' ⟨rfl, ha, hO⟩
  exact ⟨rfl, ⟨_, ha, h2.repin _, by rw [h3], h4, fun x hx => Nat.lt_of_lt_of_le (h5 x hx) hO.size⟩, hO.mono (by intro x hx; simp at hx; rw [hx]; exact h4 _ (by simp [HvP.own]))⟩

theorem BoxAt.apart {K : List Int} {w w' : World} {q : HvP} {n k : Nat} {line pins : List (List UInt8)} {S T : List Nat} (h : BoxAt K w q n k line pins S) (ho : Only T w w') (hT : ∀ x ∈ S, x ∉ T) : BoxAt K w' q n k line pins S := by
  obtain ⟨d, h1, h2, h3, h4, h5⟩ := h
  exact ⟨d, h1.keep (fun x hx => ho.block x (h5 x (h4 x hx)) (hT x (h4 x hx))), h2, h3, h4, fun x hx => Nat.lt_of_lt_of_le (h5 x hx) ho.size⟩
/-- what PutBlob answers; the line then -/
def putA (K : List Int) (n : Nat) (pins line : List (List UInt8)) (b : List UInt8) : Int × List (List UInt8) :=
  if b ∈ line then (0, mv line b)
  else if line.length < n then (0, line ++ [b])
  else match line.find? (fun x => decide (hashB K x ∉ pins)) with
    | some x => (0, line.filter (fun y => decide (y ≠ x)) ++ [b])
    | none => (11, line)
end Go.Proofs.YteihfoacdocgkaaDoor

set_option linter.unusedVariables false
set_option linter.unusedSimpArgs false
namespace Go.Proofs.YteihfoacdocgkaaDoor
open Go.RowKit Pl Sh
attribute [local go_sem] Lb.ba_get Lb.ba_cut Lb.ba_add Lb.ba_size Lb.take_rest

theorem nodup_subset_length : ∀ {l1 l2 : List Nat}, l1.Nodup → (∀ x ∈ l1, x ∈ l2) → l1.length ≤ l2.length
  | [], l2, _, _ => Nat.zero_le _
  | a :: l, l2, h, hs => by
    obtain ⟨h1, h2⟩ := List.nodup_cons.1 h
    have ha : a ∈ l2 := hs a (by simp)
    have := nodup_subset_length (l2 := l2.erase a) h2 (fun x hx => (List.mem_erase_of_ne (fun e : x = a => h1 (by rw [← e]; exact hx))).2 (hs x (by simp [hx])))
    rw [List.length_erase_of_mem ha] at this
    have hp : 0 < l2.length := List.length_pos_of_mem ha
    simp only [List.length_cons]
    omega
theorem first_free (L : List HEnt) : ∀ n, (∀ i, i < n → ∃ e ∈ L, e.at_ = i) ∨ ∃ m, m < n ∧ (∀ e ∈ L, e.at_ ≠ m) ∧ ∀ i, i < m → ∃ e ∈ L, e.at_ = i
  | 0 => .inl (fun i hi => by omega)
  | n + 1 => by
    rcases first_free L n with h | ⟨m, h1, h2, h3⟩
    · by_cases hn : ∃ e ∈ L, e.at_ = n
      · left; intro i hi
        by_cases e : i = n
        · rw [e]; exact hn
        · exact h i (by omega)
      · exact .inr ⟨n, by omega, fun e he h1 => hn ⟨e, he, h1⟩, h⟩
    · exact .inr ⟨m, by omega, h2, h3⟩
theorem ats_nodup {w : World} {q : HvP} {d : HvD} (h : HvAt w q d) : (d.L.map (·.at_)).Nodup := by
  have := h.taken.apart int_fam
  unfold slotsOf at this
  rw [List.pairwise_map] at this
  rw [List.Nodup, List.pairwise_map]
  exact this
theorem full_iff {w : World} {q : HvP} {d : HvD} {n : Nat} (h : HvAt w q d) (hlt : ∀ e ∈ d.L, e.at_ < n) : (∀ i, i < n → ∃ e ∈ d.L, e.at_ = i) ↔ n ≤ d.L.length := by
  constructor
  · intro hf
    have := nodup_subset_length (l1 := List.range n) (l2 := d.L.map (·.at_)) List.nodup_range (fun x hx => by obtain ⟨e, he, h1⟩ := hf x (List.mem_range.1 hx); exact List.mem_map.2 ⟨e, he, h1⟩)
    simpa using this
  · intro hn i hi
    refine Classical.byContradiction fun hno => ?_
    have := nodup_subset_length (l1 := i :: d.L.map (·.at_)) (l2 := List.range n) (List.nodup_cons.2 ⟨fun hm => by obtain ⟨e, he, h1⟩ := List.mem_map.1 hm; exact hno ⟨e, he, h1⟩, ats_nodup h⟩) (fun x hx => by
      rcases List.mem_cons.1 hx with rfl | hx
      · exact List.mem_range.2 hi
      · obtain ⟨e, he, rfl⟩ := List.mem_map.1 hx; exact List.mem_range.2 (hlt e he))
    simp at this
    omega
theorem sync_read {s : St} {n a : Nat} (h : Works s n a) (i : Nat) : St.read (St.sync s) i = St.read s i := by
  have he : s.pw.err = 0 := by unfold Pw.err; rw [if_neg (by rw [h.armed]; decide)]
  have hs : St.sync s = St.settle { s with pw := s.pw.act } := by unfold St.sync; rw [if_neg (by simp [h.down]), if_pos he]
  have hp : s.pw.act = { s.pw with acts := s.pw.acts + 1 } := by unfold Pw.act; rw [if_pos h.armed]
  have hd : (St.sync s).pw.down = s.pw.down := by rw [hs]; show (s.pw.act).down = _; rw [hp]
  have hl : (St.sync s).slots = s.slots.map sure1 := by rw [hs]; rfl
  unfold St.read St.atErr
  rw [hd, hl, List.length_map, List.getElem?_map]
  cases hq : s.slots[(i : Int).toNat]? with
  | none => rfl
  | some x => rfl
theorem write_life {s : St} {n a : Nat} (h : Works s n a) {k : Nat} (hk : k < n) (t : List UInt8) (ht : t.length ≤ 640) : (St.write s k t).pw.life = s.pw.life := by
  obtain ⟨-, f2, -⟩ := write_facts s k t h.down h.armed (by rw [h.len]; exact hk) ht
  rw [f2]
theorem sync_life {s : St} {n a : Nat} (h : Works s n a) : (St.sync s).pw.life = s.pw.life := by
  have he : s.pw.err = 0 := by unfold Pw.err; rw [if_neg (by rw [h.armed]; decide)]
  have hs : St.sync s = St.settle { s with pw := s.pw.act } := by unfold St.sync; rw [if_neg (by simp [h.down]), if_pos he]
  have hp : s.pw.act = { s.pw with acts := s.pw.acts + 1 } := by unfold Pw.act; rw [if_pos h.armed]
  rw [hs]
  show (s.pw.act).life = _
  rw [hp]
theorem textS_len (K : List Int) {b : List UInt8} (hb : b.length ≤ 512) : (textS K (blobRowS b)).length ≤ 640 := by unfold textS; rw [List.length_append, hashB_length]; have := blobRow_len b hb; omega
def PutBoxPost (K : List Int) (q : HvP) (n k : Nat) (line pins : List (List UInt8)) (b : List UInt8) (S : List Nat) (w : World) (r : Ending) (w' : World) : Prop :=
  r = .returned (.tuple #[.agg (digV (if (putA K n pins line b).1 = 0 then hashB K b else List.replicate 32 0)), .int .i64 (putA K n pins line b).1]) ∧ ∃ S', BoxAt K w' q n k (putA K n pins line b).2 pins S' ∧ Only S w w' ∧ ∀ x ∈ S', x ∈ S ∨ w.heap.size ≤ x
/-- a blob that is not there is put where room answers slot m -/
theorem box_put_at {K : List Int} {w : World} {q : HvP} {n k m : Nat} {line line2 pins : List (List UInt8)} {S : List Nat} {b : List UInt8} {d d2 : HvD} (h1 : HvAt w q d) (h2 : BSt K d n (k + 2) line) (h4 : ∀ x ∈ q.own d.L, x ∈ S) (h5 : ∀ x ∈ S, x < w.heap.size) (hL : Laid K w) (h0 : 0 ∉ S) (hn : n ≤ 128) (hb : b.length ≤ 512)
    (hne : ∀ e ∈ d.L, (e.isB, e.id) ≠ (true, hashB K b)) (hA : putA K n pins line b = (0, line2 ++ [b])) (hs2 : ∀ x ∈ d2.L, x ∈ d.L) (hB2 : BSt K d2 n (k + 1) line2) (hp2 : d2.pins = pins) (hm : m < n) (hfree : ∀ e ∈ d2.L, e.at_ ≠ m)
    (hroom : ∀ W, HvAt W q d → Calls Tryd.prog 126 #[.pointer (some ⟨q.p, 0, none⟩)] W fun e w' => e = .returned (.tuple #[.int .i64 m, .int .i64 0]) ∧ HvAt w' q d2 ∧ Only (q.own d.L) W w') :
    Calls Tryd.prog 23 #[.pointer (some ⟨q.p, 0, none⟩), .string ⟨b.toArray⟩] w (PutBoxPost K q n k line pins b S w) := by
  have h0o : 0 ∉ q.own d.L := fun h => h0 (h4 0 h)
  have hw := hB2.works.write hm (textS K (blobRowS b)) (textS_len K hb)
  have hwl := write_life hB2.works hm (textS K (blobRowS b)) (textS_len K hb)
  have hc := gpb_new K q d b (fun er d' => er = 0 ∧ ∃ blk, d' = { d2 with s := St.write d2.s m (textS K (blobRowS b)), L := d2.L ++ [⟨true, hashB K b, m, ((d2.clk + 1 : Nat) : Int), blobRowS b, blk⟩], clk := d2.clk + 1 }) w h1 hL h0o h2.ready hb hne (fun W hW hLW => by
    have hg := hput_gen K q d d2 true (hashB K b) (blobRowS b) m W hW hLW h0o hroom (by omega) hfree (hashB_length _ _) (blobRow_len b hb) (fun e he => hne e (hs2 e he)) (by have := hB2.clk; omega) (hB2.works.fits (by omega))
    refine hg.mono ?_
    rintro r w' ⟨hO, h | ⟨-, rfl, blk, hbk, ha⟩⟩
    · exact absurd hw.1 h.1
    · refine ⟨0, _, rfl, ⟨rfl, blk, rfl⟩, ha, hO, fun x hx => ?_⟩
      simp only [HvP.own, List.map_append, List.mem_cons, List.mem_append, List.map_cons, List.map_nil, List.not_mem_nil, or_false, List.mem_map] at hx ⊢
      rcases hx with h | h | h | h | h | h | ⟨e, he, h⟩ | h
      · simp [h]
      · simp [h]
      · simp [h]
      · simp [h]
      · simp [h]
      · simp [h]
      · exact .inl (.inr (.inr (.inr (.inr (.inr (.inr ⟨e, hs2 e he, h⟩))))))
      · right; rw [h]; exact hbk)
  refine hc.mono ?_
  rintro r w' ⟨er, d', rfl, ⟨rfl, blk, rfl⟩, ha, hO, hx⟩
  unfold PutBoxPost
  rw [hA]
  refine ⟨rfl, _ ++ S, ⟨_, ha, bst_add hB2 hb hm (hw.2.1.more (by have := hB2.room; omega)) (by rw [hwl]; exact hB2.life) hw.2.2.1 (fun e he => hw.2.2.2 e.at_ (hfree e he)) (fun e he h => hne e (hs2 e he) (by rw [(hB2.ents e he).blob.2.1, h])), hp2, fun x hxx => List.mem_append_left _ hxx, fun x hxx => ?_⟩, hO.mono h4, fun x hxx => ?_⟩
  · rcases List.mem_append.1 hxx with h | h
    · exact ha.lt x h
    · exact Nat.lt_of_lt_of_le (h5 x h) hO.size
  · rcases List.mem_append.1 hxx with h | h
    · rcases hx x h with h | h
      · exact .inl (h4 x h)
      · exact .inr h
    · exact .inl h

/-- what the line's first text that is not pinned says of the entries -/
theorem line_first {K : List Int} {d : HvD} {n k : Nat} {line : List (List UInt8)} {x : List UInt8} (h : BSt K d n k line) (hf : line.find? (fun y => decide (hashB K y ∉ d.pins)) = some x) :
    ∃ (j : Nat) (e : HEnt), d.L[j]? = some e ∧ blobE e = x ∧ e.id ∉ d.pins ∧ (∀ y ∈ d.L, y.id ∈ d.pins ∨ e.used ≤ y.used) ∧ ∀ y ∈ d.L, y.used = e.used → y = e := by
  obtain ⟨Ls, h1, h2, h3⟩ := h.line
  have hu := pw_used h1 h2
  obtain ⟨hx, as_, bs, hl, has⟩ := List.find?_eq_some_iff_append.1 hf
  rw [← h3] at hl
  obtain ⟨pre, rest, rfl, rfl, hr⟩ := List.map_eq_append_iff.1 hl
  obtain ⟨e, post, rfl, he, rfl⟩ := List.map_eq_cons_iff.1 hr
  have heL : e ∈ d.L := h1.mem_iff.1 (by simp)
  have hid : ∀ y ∈ d.L, y.id = hashB K (blobE y) := fun y hy => (h.ents y hy).blob.2.2.1
  obtain ⟨j, hj⟩ := List.mem_iff_getElem?.1 heL
  refine ⟨j, e, hj, he, by rw [hid e heL, he]; simpa using hx, fun y hy => ?_, fun y hy hyu => pw_eq (fun z : HEnt => z.used) hu hy heL hyu⟩
  rcases List.mem_append.1 (h1.mem_iff.2 hy) with hm | hm
  · left
    have := has (blobE y) (List.mem_map.2 ⟨y, hm, rfl⟩)
    rw [hid y hy]
    simpa using this
  · right
    rcases List.mem_cons.1 hm with rfl | hm
    · exact Int.le_refl _
    · obtain ⟨-, g2, -⟩ := List.pairwise_append.1 h2
      obtain ⟨g3, -⟩ := List.pairwise_cons.1 g2
      have := g3 y hm
      omega
theorem line_none {K : List Int} {d : HvD} {n k : Nat} {line : List (List UInt8)} (h : BSt K d n k line) (hf : line.find? (fun y => decide (hashB K y ∉ d.pins)) = none) : ∀ e ∈ d.L, e.id ∈ d.pins := fun e he => by
  have := List.find?_eq_none.1 hf (blobE e) ((h.mem _).2 ⟨e, he, rfl⟩)
  rw [(h.ents e he).blob.2.2.1]
  simpa using this
theorem box_put {K : List Int} {w : World} {q : HvP} {n k : Nat} {line pins : List (List UInt8)} {S : List Nat} {b : List UInt8} (h : BoxAt K w q n (k + 2) line pins S) (hL : Laid K w) (h0 : 0 ∉ S) (hn : n ≤ 128) (hb : b.length ≤ 512) (hinj : ∀ x ∈ line, hashB K x = hashB K b → x = b) :
    Calls Tryd.prog 23 #[.pointer (some ⟨q.p, 0, none⟩), .string ⟨b.toArray⟩] w (PutBoxPost K q n k line pins b S w) := by
  obtain ⟨d, h1, h2, h3, h4, h5⟩ := h
  have hlt : ∀ e ∈ d.L, e.at_ < n := fun e he => by obtain ⟨b, -, -, -, -, g, -⟩ := h2.ents e he; exact g
  have hfi := full_iff h1 hlt
  by_cases hm : b ∈ line
  · obtain ⟨e, he, hbe⟩ := (h2.mem b).1 hm
    obtain ⟨j, hj⟩ := List.mem_iff_getElem?.1 he
    obtain ⟨g1, g2, g3, g4, g5⟩ := (h2.ents e he).blob
    have hA : putA K n pins line b = (0, mv line b) := by unfold putA; rw [if_pos hm]
    refine (gpb_again K q d j e b w h1 hL h2.ready hb hj g2 (by rw [g3, hbe]) (by have := h2.clk; omega)).mono ?_
    rintro r w' ⟨rfl, ha, hO⟩
    unfold PutBoxPost
    rw [hA]
    refine ⟨rfl, S, ⟨_, ha, ?_, h3, fun x hx => h4 x (by rw [own_use hj] at hx; exact hx), fun x hx => Nat.lt_of_lt_of_le (h5 x hx) hO.size⟩, hO.mono h4, fun x hx => .inl hx⟩
    have := bst_use (h2.less (k' := k + 1) (by omega)) hj
    rw [hbe] at this
    exact this
  · have hne : ∀ e ∈ d.L, (e.isB, e.id) ≠ (true, hashB K b) := fun e he h => hm (by
      have hx := (h2.mem (blobE e)).2 ⟨e, he, rfl⟩
      rw [← hinj (blobE e) hx (by rw [← (h2.ents e he).blob.2.2.1]; exact (Prod.mk.inj h).2)]
      exact hx)
    by_cases hl : line.length < n
    · have hA : putA K n pins line b = (0, line ++ [b]) := by unfold putA; rw [if_neg hm, if_pos hl]
      rcases first_free d.L n with hf | ⟨m, m1, m2, m3⟩
      · have := hfi.1 hf; have := h2.len; omega
      · refine box_put_at h1 h2 h4 h5 hL h0 hn hb hne hA (fun x hx => hx) (h2.less (by omega)) h3 m1 m2 (fun W hW => ?_)
        refine (room_free q d m W hW (by rw [h2.works.len]; exact hn) (by rw [h2.works.len]; exact m1) m2 m3).mono ?_
        rintro r w' ⟨rfl, rfl⟩
        exact ⟨rfl, hW, Only.refl _ _⟩
    · have hfull : ∀ i, i < d.s.slots.length → ∃ e ∈ d.L, e.at_ = i := by rw [h2.works.len]; exact hfi.2 (by have := h2.len; omega)
      have hsl : d.s.slots.length ≤ 128 := by rw [h2.works.len]; exact hn
      cases hf : line.find? (fun x => decide (hashB K x ∉ pins)) with
      | some x =>
        have hA : putA K n pins line b = (0, line.filter (fun y => decide (y ≠ x)) ++ [b]) := by unfold putA; rw [if_neg hm, if_neg hl, hf]
        rw [← h3] at hf
        obtain ⟨j, e, hj, hbe, hep, hlow, huq⟩ := line_first h2 hf
        have he := List.mem_of_getElem? hj
        have hat := hlt e he
        have hw1 := h2.works.write hat [] (by decide)
        have hy := sync_works hw1.2.1
        have hB2 : BSt K { d with s := St.sync (St.write d.s e.at_ []), L := d.L.eraseIdx j } n (k + 1) (line.filter (fun y => decide (y ≠ blobE e))) := bst_out h2 hj (hy.2.more (by have := h2.room; omega)) (by rw [sync_life hw1.2.1, write_life h2.works hat [] (by decide)]; exact h2.life) (fun x hx => by
          have hxe : x.at_ ≠ e.at_ := fun h5 => by
            have hnd := ats_nodup h1
            have hp := (perm_erase hj).map (·.at_)
            have := hp.nodup_iff.2 hnd
            rw [List.map_cons, List.nodup_cons] at this
            exact this.1 (List.mem_map.2 ⟨x, hx, h5⟩)
          rw [sync_read hw1.2.1, hw1.2.2.2 _ hxe])
        rw [hbe] at hB2
        refine box_put_at h1 h2 h4 h5 hL h0 hn hb hne hA (fun x hx => List.mem_of_mem_eraseIdx hx) hB2 h3 hat (fun x hx h5 => ?_) (fun W hW => ?_)
        · have hp := (perm_erase hj).map (·.at_)
          have := hp.nodup_iff.2 (ats_nodup h1)
          rw [List.map_cons, List.nodup_cons] at this
          exact this.1 (List.mem_map.2 ⟨x, hx, h5⟩)
        · refine (room_evict q d j e W hW hsl hfull hj hep hlow huq (h2.works.fits (by omega)) (hw1.2.1.fits (by omega))).mono ?_
          rintro r w' ⟨hO, h | h | ⟨-, -, rfl, ha⟩⟩
          · exact absurd hw1.1 h.1
          · exact absurd hy.1 h.2.1
          · exact ⟨rfl, ha, hO⟩
      | none =>
        have hA : putA K n pins line b = (11, line) := by unfold putA; rw [if_neg hm, if_neg hl, hf]
        rw [← h3] at hf
        have hall := line_none h2 hf
        have h0o : 0 ∉ q.own d.L := fun h => h0 (h4 0 h)
        have hc := gpb_new K q d b (fun er d' => er = 11 ∧ d' = d) w h1 hL h0o h2.ready hb hne (fun W hW hLW => by
          refine (hput_err q d d _ (blobRowS b) 11 0 W hW (by decide) (fun V hV => ?_)).mono ?_
          · refine (room_none q d V hV hsl hfull hall).mono ?_
            rintro r w' ⟨rfl, hB⟩
            exact ⟨rfl, hV.below hB, Only.of_below hB⟩
          · rintro r w' ⟨rfl, ha, hO⟩
            exact ⟨11, d, rfl, ⟨rfl, rfl⟩, ha, hO, fun x hx => .inl hx⟩)
        refine hc.mono ?_
        rintro r w' ⟨er, d', rfl, ⟨rfl, rfl⟩, ha, hO, -⟩
        unfold PutBoxPost
        rw [hA]
        exact ⟨rfl, S, ⟨_, ha, h2.less (by omega), h3, h4, fun x hx => Nat.lt_of_lt_of_le (h5 x hx) hO.size⟩, hO.mono h4, fun x hx => .inl hx⟩
end Go.Proofs.YteihfoacdocgkaaDoor

set_option linter.unusedVariables false
set_option linter.unusedSimpArgs false
namespace Go.Proofs.YteihfoacdocgkaaDoor
open Go.RowKit Pl Sh

theorem len_subset {α : Type} [BEq α] [LawfulBEq α] : ∀ {l1 l2 : List α}, l1.Nodup → (∀ x ∈ l1, x ∈ l2) → l1.length ≤ l2.length
  | [], l2, _, _ => Nat.zero_le _
  | a :: l, l2, h, hs => by
    obtain ⟨h1, h2⟩ := List.nodup_cons.1 h
    have ha : a ∈ l2 := hs a (by simp)
    have := len_subset (l2 := l2.erase a) h2 (fun x hx => (List.mem_erase_of_ne (fun e : x = a => h1 (by rw [← e]; exact hx))).2 (hs x (by simp [hx])))
    rw [List.length_erase_of_mem ha] at this
    have hp : 0 < l2.length := List.length_pos_of_mem ha
    simp only [List.length_cons]
    omega
theorem filter_out {line : List (List UInt8)} {b : List UInt8} (hb : b ∉ line) : line.filter (fun x => decide (x ≠ b)) = line := List.filter_eq_self.2 (fun x hx => by simpa using fun e : x = b => hb (e ▸ hx))
theorem mv_perm {line : List (List UInt8)} {b : List UInt8} (hn : line.Nodup) (hb : b ∈ line) : (mv line b).Perm line := by
  unfold mv
  have h1 : line.erase b = line.filter (fun x => decide (x ≠ b)) := by
    rw [hn.erase_eq_filter]
    exact List.filter_congr (fun x hx => by by_cases e : x = b <;> simp [e])
  rw [← h1]
  exact (List.perm_append_comm).trans (List.perm_cons_erase hb).symm
theorem mv_nodup {line : List (List UInt8)} {b : List UInt8} (hn : line.Nodup) : (mv line b).Nodup := by
  unfold mv
  refine List.nodup_append.2 ⟨hn.sublist List.filter_sublist, by simp, fun x hx y hy e => ?_⟩
  simp only [List.mem_singleton] at hy
  have := (List.mem_filter.1 hx).2
  subst hy
  subst e
  simp at this
theorem put_nodup {K : List Int} {n : Nat} {pins line : List (List UInt8)} {b : List UInt8} (hn : line.Nodup) : (putA K n pins line b).2.Nodup := by
  have app : ∀ l : List (List UInt8), l.Nodup → b ∉ l → (l ++ [b]).Nodup := fun l h1 h2 => List.nodup_append.2 ⟨h1, by simp, fun x hx y hy e => by simp only [List.mem_singleton] at hy; subst hy; subst e; exact h2 hx⟩
  unfold putA
  by_cases hb : b ∈ line
  · rw [if_pos hb]; exact mv_nodup hn
  · rw [if_neg hb]
    by_cases hl : line.length < n
    · rw [if_pos hl]; exact app _ hn hb
    · rw [if_neg hl]
      cases line.find? (fun x => decide (hashB K x ∉ pins)) with
      | none => exact hn
      | some x => exact app _ (hn.sublist List.filter_sublist) (fun h => hb (List.mem_filter.1 h).1)
theorem put_sub {K : List Int} {n : Nat} {pins line : List (List UInt8)} {b : List UInt8} : ∀ x ∈ (putA K n pins line b).2, x ∈ line ∨ x = b := by
  intro x hx
  unfold putA at hx
  by_cases hb : b ∈ line
  · rw [if_pos hb] at hx
    unfold mv at hx
    rcases List.mem_append.1 hx with h | h
    · exact .inl (List.mem_filter.1 h).1
    · right; simpa using h
  · rw [if_neg hb] at hx
    by_cases hl : line.length < n
    · rw [if_pos hl] at hx
      rcases List.mem_append.1 hx with h | h
      · exact .inl h
      · right; simpa using h
    · rw [if_neg hl] at hx
      cases hf : line.find? (fun x => decide (hashB K x ∉ pins)) with
      | none => rw [hf] at hx; exact .inl hx
      | some y =>
        rw [hf] at hx
        rcases List.mem_append.1 hx with h | h
        · exact .inl (List.mem_filter.1 h).1
        · right; simpa using h
theorem filter_len {line : List (List UInt8)} {x : List UInt8} (hn : line.Nodup) (hx : x ∈ line) : (line.filter (fun y => decide (y ≠ x))).length + 1 = line.length := by
  have := (mv_perm hn hx).length_eq
  unfold mv at this
  simpa using this
theorem put_len {K : List Int} {n : Nat} {pins line : List (List UInt8)} {b : List UInt8} (hn : line.Nodup) (hl : line.length ≤ n) : (putA K n pins line b).2.length ≤ n ∧ ((putA K n pins line b).1 ≠ 0 → (putA K n pins line b).1 = 11 ∧ (putA K n pins line b).2 = line) := by
  unfold putA
  by_cases hb : b ∈ line
  · rw [if_pos hb]
    exact ⟨by show (mv line b).length ≤ n; rw [(mv_perm hn hb).length_eq]; exact hl, fun h => absurd rfl h⟩
  · rw [if_neg hb]
    by_cases h : line.length < n
    · rw [if_pos h]; exact ⟨by simp; omega, fun h => absurd rfl h⟩
    · rw [if_neg h]
      cases hf : line.find? (fun x => decide (hashB K x ∉ pins)) with
      | none => exact ⟨hl, fun _ => ⟨rfl, rfl⟩⟩
      | some x =>
        have := filter_len hn (List.mem_of_find?_eq_some hf)
        exact ⟨by simp only [List.length_append, List.length_singleton]; omega, fun h => absurd rfl h⟩
/-- without pins: the oldest goes -/
theorem put_old {K : List Int} {n : Nat} {line : List (List UInt8)} {b : List UInt8} (hn : line.Nodup) (hl : line.length ≤ n) (h0 : 0 < n) :
    putA K n [] line b = (0, if n < (mv line b).length then (mv line b).tail else mv line b) := by
  unfold putA
  by_cases hb : b ∈ line
  · rw [if_pos hb, if_neg (by rw [(mv_perm hn hb).length_eq]; omega)]
  · have hm : mv line b = line ++ [b] := by unfold mv; rw [filter_out hb]
    rw [if_neg hb, hm]
    by_cases h : line.length < n
    · rw [if_pos h, if_neg (by simp; omega)]
    · rw [if_neg h, if_pos (by simp; omega)]
      cases line with
      | nil => simp at h; omega
      | cons a l =>
        have hf : (a :: l).find? (fun x => decide (hashB K x ∉ [])) = some a := by rw [List.find?_cons_of_pos (by simp)]
        rw [hf]
        have ha : a ∉ l := (List.nodup_cons.1 hn).1
        simp only [List.cons_append, List.tail_cons]
        rw [List.filter_cons_of_neg (by simp), filter_out ha]
/-- while pins are laid: all that is there is pinned -/
theorem put_pins {K : List Int} {n : Nat} {pins line : List (List UInt8)} {b : List UInt8} (hn : line.Nodup) (hl : line.length ≤ n) (hp : ∀ x ∈ line, hashB K x ∈ pins) :
    ((putA K n pins line b).1 = 0 ↔ b ∈ line ∨ line.length < n) ∧ ((putA K n pins line b).1 = 0 → (putA K n pins line b).2.Perm (if b ∈ line then line else line ++ [b])) := by
  unfold putA
  by_cases hb : b ∈ line
  · rw [if_pos hb, if_pos hb]
    exact ⟨⟨fun _ => .inl hb, fun _ => rfl⟩, fun _ => mv_perm hn hb⟩
  · rw [if_neg hb, if_neg hb]
    by_cases h : line.length < n
    · rw [if_pos h]
      exact ⟨⟨fun _ => .inr h, fun _ => rfl⟩, fun _ => List.Perm.refl _⟩
    · rw [if_neg h]
      have hf : line.find? (fun x => decide (hashB K x ∉ pins)) = none := List.find?_eq_none.2 (fun x hx => by simpa using hp x hx)
      rw [hf]
      exact ⟨⟨fun h => (by cases h), fun h' => (by rcases h' with h' | h'; exact absurd h' hb; exact absurd h' h)⟩, fun h => (by cases h)⟩
/-- what is pinned stays -/
theorem put_kept {K : List Int} {n : Nat} {pins line kept : List (List UInt8)} {b : List UInt8} (hn : line.Nodup) (hl : line.length ≤ n) (hkn : kept.Nodup) (hk : ∀ x ∈ kept, x ∈ line ∧ hashB K x ∈ pins) (hp : ∀ x ∈ line, hashB K x ∈ pins → x ∈ kept) :
    ((putA K n pins line b).1 = 0 ↔ b ∈ kept ∨ kept.length < n) ∧ ∀ x ∈ kept, x ∈ (putA K n pins line b).2 := by
  have hlen : kept.length ≤ line.length := len_subset hkn (fun x hx => (hk x hx).1)
  have hlt : ∀ y ∈ line, y ∉ kept → kept.length < line.length := fun y hy hyk => by
    have : (y :: kept).length ≤ line.length := len_subset (List.nodup_cons.2 ⟨hyk, hkn⟩) (fun x hx => by
      rcases List.mem_cons.1 hx with rfl | hx
      · exact hy
      · exact (hk x hx).1)
    simp only [List.length_cons] at this
    omega
  unfold putA
  by_cases hb : b ∈ line
  · rw [if_pos hb]
    refine ⟨⟨fun _ => ?_, fun _ => rfl⟩, fun x hx => (mv_perm hn hb).mem_iff.2 (hk x hx).1⟩
    by_cases hbk : b ∈ kept
    · exact .inl hbk
    · exact .inr (Nat.lt_of_lt_of_le (hlt b hb hbk) hl)
  · rw [if_neg hb]
    by_cases h : line.length < n
    · rw [if_pos h]
      exact ⟨⟨fun _ => .inr (by omega), fun _ => rfl⟩, fun x hx => List.mem_append_left _ (hk x hx).1⟩
    · rw [if_neg h]
      cases hf : line.find? (fun x => decide (hashB K x ∉ pins)) with
      | some y =>
        have hyL := List.mem_of_find?_eq_some hf
        have hyp : hashB K y ∉ pins := by simpa using List.find?_some hf
        have hyk : y ∉ kept := fun hm => hyp (hk y hm).2
        refine ⟨⟨fun _ => .inr (Nat.lt_of_lt_of_le (hlt y hyL hyk) hl), fun _ => rfl⟩, fun x hx => List.mem_append_left _ (List.mem_filter.2 ⟨(hk x hx).1, ?_⟩)⟩
        have : x ≠ y := fun e => hyk (e ▸ hx)
        simpa using this
      | none =>
        have hall : ∀ x ∈ line, x ∈ kept := fun x hx => hp x hx (by have := List.find?_eq_none.1 hf x hx; simpa using this)
        have hge : line.length ≤ kept.length := len_subset hn hall
        refine ⟨⟨fun h => (by cases h), fun h' => ?_⟩, fun x hx => (hk x hx).1⟩
        rcases h' with h' | h'
        · exact absurd (hk b h').1 hb
        · omega
end Go.Proofs.YteihfoacdocgkaaDoor

set_option linter.unusedVariables false
set_option linter.unusedSimpArgs false
namespace Go.Proofs.YteihfoacdocgkaaDoor
open Go.RowKit Pl Sh
attribute [local go_sem] Lb.ba_get Lb.ba_cut Lb.ba_add Lb.ba_size Lb.take_rest

def BoxNewPost (K : List Int) (n : Nat) (w : World) (e : Ending) (w' : World) : Prop :=
  ∃ (q : HvP) (S : List Nat), e = .returned (.tuple #[.pointer (some ⟨q.p, 0, none⟩), .int .i64 0]) ∧ BoxAt K w' q n 200000 [] [] S ∧ (∀ x ∈ S, x = w.heap.size - 1 ∨ x = w.heap.size - 2 ∨ w.heap.size ≤ x) ∧ Below w.heap.size w w'
theorem box_new (K : List Int) (n : Nat) (w0 w : World) (hn : n ≤ 128) (h : ShAt w (w0.heap.size + 1) w0.heap.size (St.new n)) :
    Calls Tryd.prog 19 #[.pointer (some ⟨w0.heap.size + 1, 0, none⟩)] w fun e w' => ∃ (q : HvP) (S : List Nat), e = .returned (.tuple #[.pointer (some ⟨q.p, 0, none⟩), .int .i64 0]) ∧ BoxAt K w' q n 200000 [] [] S ∧ (∀ x ∈ S, w0.heap.size ≤ x) ∧ Below w.heap.size w w' ∧ q.b = w0.heap.size + 1 ∧ q.g = w0.heap.size := by
  have hop := open_empty (w0.heap.size + 1) w0.heap.size (St.new n) w h rfl (by simp [St.new]; exact hn) (fun i hi => new_read n i (by simpa [St.new] using hi))
  have hl1 : w0.heap.size + 1 < w.heap.size := heap_lt h.pw
  refine hop.mono ?_
  rintro e w' ⟨q, hqb, hqg, rfl, hat, hnw, hB⟩
  refine ⟨q, q.own [], rfl, ⟨_, hat, ⟨⟨rfl, rfl, by show 0 ≤ _; omega, by show 0 < 100000; omega, by simp [St.new]⟩, by omega, rfl, rfl, by show 0 + 200000 < 900000; omega, (by show ((0 : Nat) : Int) < 50000; decide), (fun e he => by cases he), List.Pairwise.nil, ⟨[], List.Perm.refl _, List.Pairwise.nil, rfl⟩⟩, rfl, fun x hx => hx, hat.lt⟩, fun x hx => ?_, hB, hqb, hqg⟩
  simp only [HvP.own, List.map_nil, List.mem_cons, List.not_mem_nil, or_false] at hx
  simp only [List.mem_cons, List.not_mem_nil, or_false, forall_eq_or_imp, forall_eq] at hnw
  omega

/-- while pins are laid -/
structure Laying (K : List Int) (n : Nat) (ps : List (List UInt8)) (i : Nat) (kept line P : List (List UInt8)) : Prop where
  perm : line.Perm kept
  nd : kept.Nodup
  len : kept.length ≤ n
  pin : ∀ x ∈ kept, hashB K x ∈ P
  only : ∀ y ∈ P, ∃ x ∈ kept, hashB K x = y
  sub : ∀ x ∈ kept, x ∈ ps
theorem Laying.line_nd {K : List Int} {n i : Nat} {ps kept line P : List (List UInt8)} (h : Laying K n ps i kept line P) : line.Nodup := h.perm.nodup_iff.2 h.nd
theorem Laying.line_len {K : List Int} {n i : Nat} {ps kept line P : List (List UInt8)} (h : Laying K n ps i kept line P) : line.length = kept.length := h.perm.length_eq
theorem Laying.ok {K : List Int} {n i : Nat} {ps kept line P : List (List UInt8)} (h : Laying K n ps i kept line P) (b : List UInt8) : (putA K n P line b).1 = 0 ↔ b ∈ kept ∨ kept.length < n := by
  have := (put_pins (b := b) h.line_nd (by rw [h.line_len]; exact h.len) (fun x hx => h.pin x (h.perm.mem_iff.1 hx))).1
  rw [this, h.line_len, h.perm.mem_iff]
def keptAdd (kept : List (List UInt8)) (b : List UInt8) : List (List UInt8) := if b ∈ kept then kept else kept ++ [b]
theorem Laying.step {K : List Int} {n i : Nat} {ps kept line P : List (List UInt8)} {b : List UInt8} (h : Laying K n ps i kept line P) (hb : b ∈ ps) (h0 : (putA K n P line b).1 = 0) : Laying K n ps (i + 1) (keptAdd kept b) (putA K n P line b).2 (pinAdd P (hashB K b)) := by
  have hp := (put_pins (b := b) h.line_nd (by rw [h.line_len]; exact h.len) (fun x hx => h.pin x (h.perm.mem_iff.1 hx))).2 h0
  have hok := (h.ok b).1 h0
  have hmp : ∀ y, y ∈ pinAdd P (hashB K b) ↔ y ∈ P ∨ y = hashB K b := fun y => by
    unfold pinAdd
    by_cases e : hashB K b ∈ P
    · rw [if_pos e]
      exact ⟨.inl, fun h => by rcases h with h | h; exact h; rw [h]; exact e⟩
    · rw [if_neg e]; simp
  unfold keptAdd
  by_cases hk : b ∈ kept
  · rw [if_pos (h.perm.mem_iff.2 hk)] at hp
    rw [if_pos hk]
    exact ⟨hp.trans h.perm, h.nd, h.len, fun x hx => (hmp _).2 (.inl (h.pin x hx)), fun y hy => by rcases (hmp y).1 hy with h1 | h1; exact h.only y h1; exact ⟨b, hk, h1.symm⟩, h.sub⟩
  · rw [if_neg (fun hm => hk (h.perm.mem_iff.1 hm))] at hp
    rw [if_neg hk]
    have hl : kept.length < n := by rcases hok with h1 | h1; exact absurd h1 hk; exact h1
    refine ⟨hp.trans (h.perm.append_right _), List.nodup_append.2 ⟨h.nd, by simp, fun x hx y hy e => by simp only [List.mem_singleton] at hy; subst hy; subst e; exact hk hx⟩, by simp; omega, fun x hx => (hmp _).2 ?_, fun y hy => ?_, fun x hx => ?_⟩
    · rcases List.mem_append.1 hx with h1 | h1
      · exact .inl (h.pin x h1)
      · simp only [List.mem_singleton] at h1; right; rw [h1]
    · rcases (hmp y).1 hy with h1 | h1
      · obtain ⟨x, hx, e⟩ := h.only y h1; exact ⟨x, List.mem_append_left _ hx, e⟩
      · exact ⟨b, by simp, h1.symm⟩
    · rcases List.mem_append.1 hx with h1 | h1
      · exact h.sub x h1
      · simp only [List.mem_singleton] at h1; rw [h1]; exact hb
/-- while texts are put beside what is pinned -/
structure Beside (K : List Int) (n : Nat) (all kept line P : List (List UInt8)) : Prop where
  nd : line.Nodup
  knd : kept.Nodup
  len : line.length ≤ n
  kept_in : ∀ x ∈ kept, x ∈ line ∧ hashB K x ∈ P
  pinned : ∀ x ∈ line, hashB K x ∈ P → x ∈ kept
  sub : ∀ x ∈ line, x ∈ all
theorem Beside.start {K : List Int} {n i : Nat} {ps all kept line P : List (List UInt8)} (h : Laying K n ps i kept line P) (hs : ∀ x ∈ ps, x ∈ all) : Beside K n all kept line P :=
  ⟨h.line_nd, h.nd, by rw [h.line_len]; exact h.len, fun x hx => ⟨h.perm.mem_iff.2 hx, h.pin x hx⟩, fun x hx _ => h.perm.mem_iff.1 hx, fun x hx => hs x (h.sub x (h.perm.mem_iff.1 hx))⟩
theorem Beside.put {K : List Int} {n : Nat} {all kept line P : List (List UInt8)} {b : List UInt8} (h : Beside K n all kept line P) (hb : b ∈ all) (hinj : ∀ x ∈ all, ∀ y ∈ all, hashB K x = hashB K y → x = y) (hP : ∀ y ∈ P, ∃ x ∈ kept, hashB K x = y) :
    ((putA K n P line b).1 = 0 ↔ b ∈ kept ∨ kept.length < n) ∧ Beside K n all kept (putA K n P line b).2 P := by
  obtain ⟨h1, h2⟩ := put_kept (b := b) h.nd h.len h.knd h.kept_in h.pinned
  have hsub : ∀ x ∈ (putA K n P line b).2, x ∈ all := fun x hx => by
    rcases put_sub x hx with h3 | h3
    · exact h.sub x h3
    · rw [h3]; exact hb
  refine ⟨h1, put_nodup h.nd, h.knd, (put_len h.nd h.len).1, fun x hx => ⟨h2 x hx, (h.kept_in x hx).2⟩, fun x hx hxp => ?_, hsub⟩
  obtain ⟨y, hy, e⟩ := hP _ hxp
  rw [← hinj y (h.sub y (h.kept_in y hy).1) x (hsub x hx) e]
  exact hy
theorem Beside.mv {K : List Int} {n : Nat} {all kept line P : List (List UInt8)} {b : List UInt8} (h : Beside K n all kept line P) (hb : b ∈ line) : Beside K n all kept (mv line b) P := by
  have hp := mv_perm h.nd hb
  exact ⟨mv_nodup h.nd, h.knd, by rw [hp.length_eq]; exact h.len, fun x hx => ⟨hp.mem_iff.2 (h.kept_in x hx).1, (h.kept_in x hx).2⟩, fun x hx => h.pinned x (hp.mem_iff.1 hx), fun x hx => h.sub x (hp.mem_iff.1 hx)⟩
end Go.Proofs.YteihfoacdocgkaaDoor
