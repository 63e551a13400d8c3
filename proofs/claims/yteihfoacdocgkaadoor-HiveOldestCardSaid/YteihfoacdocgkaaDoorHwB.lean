/-
  Layer 5, plain: a store of blobs as a line of texts, those used last behind.
-/
import Derived.Test.YteihfoacdocgkaaDoorHwA
set_option linter.unusedVariables false
set_option linter.unusedSimpArgs false
namespace Go.Proofs.YteihfoacdocgkaaDoor
open Go.RowKit Pl Sh

def blobE (e : HEnt) : List UInt8 := (asBlobS e.row).1
/-- an entry of a blob, in its slot -/
def EntOk (K : List Int) (d : HvD) (n : Nat) (e : HEnt) : Prop := ∃ b, b.length ≤ 512 ∧ e.isB = true ∧ e.id = hashB K b ∧ e.row = blobRowS b ∧ e.at_ < n ∧ St.read d.s e.at_ = textS K e.row ∧ e.used ≤ (d.clk : Int)
theorem EntOk.blob {K : List Int} {d : HvD} {n : Nat} {e : HEnt} (h : EntOk K d n e) : (blobE e).length ≤ 512 ∧ e.isB = true ∧ e.id = hashB K (blobE e) ∧ e.row = blobRowS (blobE e) ∧ asBlobS e.row = (blobE e, true) := by
  obtain ⟨b, h1, h2, h3, h4, -⟩ := h
  have hb : asBlobS e.row = (b, true) := by rw [h4]; exact asBlob_blob b h1
  have he : blobE e = b := by unfold blobE; rw [hb]
  rw [he]
  exact ⟨h1, h2, h3, h4, hb⟩
/-- a store of n slots that works, bears k calls yet, and holds the blobs of a line -/
structure BSt (K : List Int) (d : HvD) (n k : Nat) (line : List (List UInt8)) : Prop where
  works : Works d.s n (900000 - 3 * k)
  room : 3 * k ≤ 900000
  dead : d.dead = false
  life : (d.s.pw.life : Int) = d.life
  clk : d.clk + k < 900000
  low : d.life < 50000
  ents : ∀ e ∈ d.L, EntOk K d n e
  ids : d.L.Pairwise (fun x y => x.id ≠ y.id)
  line : ∃ Ls : List HEnt, Ls.Perm d.L ∧ Ls.Pairwise (fun x y => x.used < y.used) ∧ Ls.map blobE = line
theorem BSt.ready {K : List Int} {d : HvD} {n k : Nat} {line : List (List UInt8)} (h : BSt K d n k line) : d.ready := ⟨h.dead, h.works.down, h.life⟩
theorem BSt.less {K : List Int} {d : HvD} {n k k' : Nat} {line : List (List UInt8)} (h : BSt K d n k line) (hk : k' ≤ k) : BSt K d n k' line :=
  ⟨h.works.more (by have := h.room; omega), by have := h.room; omega, h.dead, h.life, by have := h.clk; omega, h.low, h.ents, h.ids, h.line⟩
theorem BSt.len {K : List Int} {d : HvD} {n k : Nat} {line : List (List UInt8)} (h : BSt K d n k line) : line.length = d.L.length := by
  obtain ⟨Ls, h1, -, h3⟩ := h.line
  rw [← h3, List.length_map]; exact h1.length_eq
theorem BSt.mem {K : List Int} {d : HvD} {n k : Nat} {line : List (List UInt8)} (h : BSt K d n k line) (b : List UInt8) : b ∈ line ↔ ∃ e ∈ d.L, blobE e = b := by
  obtain ⟨Ls, h1, -, h3⟩ := h.line
  rw [← h3, List.mem_map]
  constructor
  · rintro ⟨e, he, rfl⟩; exact ⟨e, h1.mem_iff.1 he, rfl⟩
  · rintro ⟨e, he, rfl⟩; exact ⟨e, h1.mem_iff.2 he, rfl⟩
theorem pw_used {Ls L : List HEnt} (h : Ls.Perm L) (hp : Ls.Pairwise (fun x y => x.used < y.used)) : L.Pairwise (fun x y => x.used ≠ y.used) := by
  have h1 : Ls.Pairwise (fun x y => x.used ≠ y.used) := hp.imp (fun hlt => by omega)
  exact (h.pairwise_iff (fun {x y} hne => Ne.symm hne)).1 h1
theorem pw_eq {α β : Type} (f : α → β) : ∀ {L : List α}, L.Pairwise (fun x y => f x ≠ f y) → ∀ {x y : α}, x ∈ L → y ∈ L → f x = f y → x = y
  | [], _, x, y, hx, _, _ => by cases hx
  | a :: L, hp, x, y, hx, hy, he => by
    obtain ⟨h1, h2⟩ := List.pairwise_cons.1 hp
    rcases List.mem_cons.1 hx with ex | hx'
    · rcases List.mem_cons.1 hy with ey | hy'
      · rw [ex, ey]
      · exact absurd (ex ▸ he) (h1 y hy')
    · rcases List.mem_cons.1 hy with ey | hy'
      · exact absurd (ey ▸ he.symm) (h1 x hx')
      · exact pw_eq f h2 hx' hy' he
theorem perm_erase {α : Type} : ∀ {L : List α} {j : Nat} {e : α}, L[j]? = some e → (e :: L.eraseIdx j).Perm L
  | [], j, e, h => by simp at h
  | a :: L, 0, e, h => by
    have : a = e := by simpa using h
    subst this
    simp
  | a :: L, j + 1, e, h => by
    have h' : L[j]? = some e := by simpa using h
    rw [List.eraseIdx_cons_succ]
    exact (List.Perm.swap a e _).trans ((perm_erase h').cons a)
theorem perm_set {α : Type} : ∀ {L : List α} {j : Nat} {e : α} (a : α), L[j]? = some e → (L.set j a).Perm (a :: L.eraseIdx j)
  | [], j, e, a, h => by simp at h
  | b :: L, 0, e, a, h => by simp
  | b :: L, j + 1, e, a, h => by
    have h' : L[j]? = some e := by simpa using h
    rw [List.eraseIdx_cons_succ, List.set_cons_succ]
    exact ((perm_set a h').cons b).trans (List.Perm.swap a b _)
/-- an entry goes: of the line too -/
theorem line_erase {K : List Int} {d : HvD} {n k j : Nat} {e : HEnt} {line : List (List UInt8)} (h : BSt K d n k line) (hj : d.L[j]? = some e) :
    ∃ Ls : List HEnt, Ls.Perm (d.L.eraseIdx j) ∧ Ls.Pairwise (fun x y => x.used < y.used) ∧ Ls.map blobE = line.filter (fun x => decide (x ≠ blobE e)) := by
  obtain ⟨Ls, h1, h2, h3⟩ := h.line
  obtain ⟨hjl, hje⟩ := List.getElem?_eq_some_iff.1 hj
  have hu := pw_used h1 h2
  have he : e ∈ d.L := List.mem_of_getElem? hj
  have hp1 : (e :: d.L.eraseIdx j).Perm d.L := perm_erase hj
  have hu2 := (hp1.pairwise_iff (fun {x y} (hne : x.used ≠ y.used) => Ne.symm hne)).2 hu
  obtain ⟨hu3, -⟩ := List.pairwise_cons.1 hu2
  have hf : (d.L.filter (fun x => decide (x.used ≠ e.used))).Perm (d.L.eraseIdx j) := by
    have h4 := (hp1.symm.filter (fun x => decide (x.used ≠ e.used)))
    rw [List.filter_cons_of_neg (by simp), List.filter_eq_self (l := d.L.eraseIdx j) |>.2 (fun x hx => by simpa using fun e1 => hu3 x hx e1.symm)] at h4
    exact h4
  refine ⟨Ls.filter (fun x => decide (x.used ≠ e.used)), (h1.filter _).trans hf, h2.filter _, ?_⟩
  rw [← h3, List.filter_map]
  congr 1
  refine List.filter_congr (fun x hx => ?_)
  have hxL := h1.mem_iff.1 hx
  have hb : x.used ≠ e.used ↔ blobE x ≠ blobE e := by
    constructor
    · intro hne hbe
      have hid : x.id = e.id := by rw [(h.ents x hxL).blob.2.2.1, (h.ents e he).blob.2.2.1, hbe]
      exact hne (by rw [pw_eq (fun x : HEnt => x.id) h.ids hxL he hid])
    · intro hne hue
      exact hne (by rw [pw_eq (fun x : HEnt => x.used) hu hxL he hue])
  simp only [Function.comp]
  exact decide_eq_decide.2 hb

def mv (line : List (List UInt8)) (b : List UInt8) : List (List UInt8) := line.filter (fun x => decide (x ≠ b)) ++ [b]
theorem ids_erase {L : List HEnt} (h : L.Pairwise (fun x y => x.id ≠ y.id)) (j : Nat) : (L.eraseIdx j).Pairwise (fun x y => x.id ≠ y.id) := h.sublist (List.eraseIdx_sublist _ _)
/-- an entry is used -/
theorem bst_use {K : List Int} {d : HvD} {n k j : Nat} {e : HEnt} {line : List (List UInt8)} (h : BSt K d n (k + 1) line) (hj : d.L[j]? = some e) :
    BSt K { d with L := d.L.set j { e with used := ((d.clk + 1 : Nat) : Int) }, clk := d.clk + 1 } n k (mv line (blobE e)) := by
  obtain ⟨Ls, h1, h2, h3⟩ := line_erase h hj
  have he : e ∈ d.L := List.mem_of_getElem? hj
  obtain ⟨e', he'⟩ : ∃ x : HEnt, x = { e with used := ((d.clk + 1 : Nat) : Int) } := ⟨_, rfl⟩
  have hps : (d.L.set j e').Perm (e' :: d.L.eraseIdx j) := perm_set e' hj
  have hpe := perm_erase hj
  rw [← he']
  have hmem : ∀ x ∈ d.L.set j e', x = e' ∨ x ∈ d.L := fun x hx => by
    rcases List.mem_cons.1 (hps.mem_iff.1 hx) with h | h
    · exact .inl h
    · exact .inr (List.mem_of_mem_eraseIdx h)
  have hlt : ∀ x ∈ Ls, x.used < e'.used := fun x hx => by
    obtain ⟨b, -, -, -, -, -, -, hu⟩ := h.ents x (List.mem_of_mem_eraseIdx (h1.mem_iff.1 hx))
    rw [he']
    show x.used < ((d.clk + 1 : Nat) : Int)
    omega
  refine ⟨h.works.more (by have := h.room; omega), by have := h.room; omega, h.dead, h.life, by have := h.clk; show d.clk + 1 + k < _; omega, h.low, fun x hx => ?_, ?_, ⟨Ls ++ [e'], ?_, ?_, ?_⟩⟩
  · rcases hmem x hx with rfl | hx
    · obtain ⟨b, g1, g2, g3, g4, g5, g6, g7⟩ := h.ents e he
      exact ⟨b, g1, by rw [he']; exact g2, by rw [he']; exact g3, by rw [he']; exact g4, by rw [he']; exact g5, by rw [he']; exact g6, by rw [he']; exact Int.le_refl _⟩
    · obtain ⟨b, g1, g2, g3, g4, g5, g6, g7⟩ := h.ents x hx
      exact ⟨b, g1, g2, g3, g4, g5, g6, by show x.used ≤ ((d.clk + 1 : Nat) : Int); omega⟩
  · have hp := (hpe.pairwise_iff (fun {x y} (hne : x.id ≠ y.id) => Ne.symm hne)).2 h.ids
    obtain ⟨g1, g2⟩ := List.pairwise_cons.1 hp
    exact (hps.pairwise_iff (fun {x y} (hne : x.id ≠ y.id) => Ne.symm hne)).2 (List.pairwise_cons.2 ⟨fun y hy => by rw [he']; exact g1 y hy, g2⟩)
  · exact ((List.perm_append_comm).trans (h1.cons e')).trans hps.symm
  · exact List.pairwise_append.2 ⟨h2, List.pairwise_singleton _ _, fun x hx y hy => by simp only [List.mem_singleton] at hy; subst hy; exact hlt x hx⟩
  · rw [List.map_append, h3]
    have : blobE e' = blobE e := by rw [he']; rfl
    simp only [List.map_cons, List.map_nil, this]
    rfl
/-- an entry more -/
theorem bst_add {K : List Int} {d : HvD} {n k : Nat} {line : List (List UInt8)} {s2 : St} {m blk : Nat} {b : List UInt8} (h : BSt K d n (k + 1) line) (hb : b.length ≤ 512) (hm : m < n) (hs : Works s2 n (900000 - 3 * k)) (hl : (s2.pw.life : Int) = d.life)
    (hr : St.read s2 m = textS K (blobRowS b)) (hr2 : ∀ e ∈ d.L, St.read s2 e.at_ = St.read d.s e.at_) (hne : ∀ e ∈ d.L, e.id ≠ hashB K b) :
    BSt K { d with s := s2, L := d.L ++ [⟨true, hashB K b, m, ((d.clk + 1 : Nat) : Int), blobRowS b, blk⟩], clk := d.clk + 1 } n k (line ++ [b]) := by
  obtain ⟨Ls, h1, h2, h3⟩ := h.line
  obtain ⟨e', he'⟩ : ∃ x : HEnt, x = ⟨true, hashB K b, m, ((d.clk + 1 : Nat) : Int), blobRowS b, blk⟩ := ⟨_, rfl⟩
  rw [← he']
  have hbe : blobE e' = b := by unfold blobE; rw [he']; show (asBlobS (blobRowS b)).1 = b; rw [asBlob_blob b hb]
  refine ⟨hs, by have := h.room; omega, h.dead, hl, by have := h.clk; show d.clk + 1 + k < _; omega, h.low, fun x hx => ?_, ?_, ⟨Ls ++ [e'], h1.append_right _, ?_, by rw [List.map_append, h3]; simp [hbe]⟩⟩
  · rcases List.mem_append.1 hx with hx | hx
    · obtain ⟨b2, g1, g2, g3, g4, g5, g6, g7⟩ := h.ents x hx
      exact ⟨b2, g1, g2, g3, g4, g5, by show St.read s2 x.at_ = _; rw [hr2 x hx]; exact g6, by show x.used ≤ ((d.clk + 1 : Nat) : Int); omega⟩
    · simp only [List.mem_singleton] at hx
      subst hx
      exact ⟨b, hb, by rw [he'], by rw [he'], by rw [he'], by rw [he']; exact hm, by rw [he']; exact hr, by rw [he']; exact Int.le_refl _⟩
  · exact List.pairwise_append.2 ⟨h.ids, List.pairwise_singleton _ _, fun x hx y hy => by simp only [List.mem_singleton] at hy; subst hy; rw [he']; exact hne x hx⟩
  · exact List.pairwise_append.2 ⟨h2, List.pairwise_singleton _ _, fun x hx y hy => by
      simp only [List.mem_singleton] at hy
      subst hy
      obtain ⟨b2, -, -, -, -, -, -, hu⟩ := h.ents x (h1.mem_iff.1 hx)
      rw [he']
      show x.used < ((d.clk + 1 : Nat) : Int)
      omega⟩
/-- an entry is thrown out -/
theorem bst_out {K : List Int} {d : HvD} {n k j : Nat} {e : HEnt} {line : List (List UInt8)} {s2 : St} (h : BSt K d n (k + 1) line) (hj : d.L[j]? = some e) (hs : Works s2 n (900000 - 3 * k - 1)) (hl : (s2.pw.life : Int) = d.life)
    (hr2 : ∀ x ∈ d.L.eraseIdx j, St.read s2 x.at_ = St.read d.s x.at_) :
    BSt K { d with s := s2, L := d.L.eraseIdx j } n k (line.filter (fun x => decide (x ≠ blobE e))) := by
  refine ⟨hs.more (by omega), by have := h.room; omega, h.dead, hl, by have := h.clk; show d.clk + k < _; omega, h.low, fun x hx => ?_, ids_erase h.ids j, line_erase h hj⟩
  obtain ⟨b2, g1, g2, g3, g4, g5, g6, g7⟩ := h.ents x (List.mem_of_mem_eraseIdx hx)
  exact ⟨b2, g1, g2, g3, g4, g5, by show St.read s2 x.at_ = _; rw [hr2 x hx]; exact g6, g7⟩
end Go.Proofs.YteihfoacdocgkaaDoor
