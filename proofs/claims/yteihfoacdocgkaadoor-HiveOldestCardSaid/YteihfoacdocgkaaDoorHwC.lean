/-
  Layer 5: contracts of a store of blobs, in words of its line: Blob, PutBlob, Pin, Len.
-/
import Derived.Test.YteihfoacdocgkaaDoorHwB
set_option linter.unusedVariables false
set_option linter.unusedSimpArgs false
namespace Go.Proofs.YteihfoacdocgkaaDoor
open Go.RowKit Pl Sh
attribute [local go_sem] Lb.ba_get Lb.ba_cut Lb.ba_add Lb.ba_size Lb.take_rest

/-- a store of blobs in memory, all of whose blocks are among S -/
def BoxAt (K : List Int) (w : World) (q : HvP) (n k : Nat) (line pins : List (List UInt8)) (S : List Nat) : Prop := ∃ d, HvAt w q d ∧ BSt K d n k line ∧ d.pins = pins ∧ (∀ x ∈ q.own d.L, x ∈ S) ∧ ∀ x ∈ S, x < w.heap.size
theorem BoxAt.below {K : List Int} {w w' : World} {q : HvP} {n k : Nat} {line pins : List (List UInt8)} {S : List Nat} (h : BoxAt K w q n k line pins S) (hb : Below w.heap.size w w') : BoxAt K w' q n k line pins S := by
  obtain ⟨d, h1, h2, h3, h4, h5⟩ := h
  exact ⟨d, h1.below hb, h2, h3, h4, fun x hx => Nat.lt_of_lt_of_le (h5 x hx) hb.size⟩
theorem BoxAt.less {K : List Int} {w : World} {q : HvP} {n k k' : Nat} {line pins : List (List UInt8)} {S : List Nat} (h : BoxAt K w q n k line pins S) (hk : k' ≤ k) : BoxAt K w q n k' line pins S := by
  obtain ⟨d, h1, h2, h3, h4, h5⟩ := h
  exact ⟨d, h1, h2.less hk, h3, h4, h5⟩
theorem digV_byV (o : List UInt8) : (byV o).toArray = digV o := rfl
theorem box_yes {K : List Int} {w : World} {q : HvP} {n k : Nat} {line pins : List (List UInt8)} {S : List Nat} {b : List UInt8} (h : BoxAt K w q n (k + 1) line pins S) (hL : Laid K w) (hb : b ∈ line) :
    Calls Tryd.prog 27 #[.pointer (some ⟨q.p, 0, none⟩), .agg (digV (hashB K b))] w fun r w' => r = .returned (.tuple #[.string ⟨b.toArray⟩, .bool true]) ∧ BoxAt K w' q n k (mv line b) pins S ∧ Only S w w' := by
  obtain ⟨d, h1, h2, h3, h4, h5⟩ := h
  obtain ⟨e, he, rfl⟩ := (h2.mem b).1 hb
  obtain ⟨j, hj⟩ := List.mem_iff_getElem?.1 he
  obtain ⟨g1, g2, g3, g4, g5⟩ := (h2.ents e he).blob
  have htx : St.read d.s e.at_ = textS K e.row := by obtain ⟨b, -, -, -, -, -, g, -⟩ := h2.ents e he; exact g
  have hc := gblob_yes K q d j e (hashB K (blobE e)) w h1 hL h2.ready (hashB_length _ _) hj g2 g3 (by have := h2.clk; omega) htx
  refine hc.mono ?_
  rintro r w' ⟨rfl, ha, hO⟩
  exact ⟨by rw [g5], ⟨_, ha, bst_use h2 hj, h3, fun x hx => h4 x (by rw [own_use hj] at hx; exact hx), fun x hx => Nat.lt_of_lt_of_le (h5 x hx) hO.size⟩, hO.mono h4⟩
theorem box_no {K : List Int} {w : World} {q : HvP} {n k : Nat} {line pins : List (List UInt8)} {S : List Nat} {b : List UInt8} (h : BoxAt K w q n k line pins S) (hL : Laid K w) (hb : ∀ x ∈ line, hashB K x ≠ hashB K b) :
    Calls Tryd.prog 27 #[.pointer (some ⟨q.p, 0, none⟩), .agg (digV (hashB K b))] w fun r w' => r = .returned (.tuple #[.string ⟨#[]⟩, .bool false]) ∧ BoxAt K w' q n k line pins S ∧ Below w.heap.size w w' := by
  obtain ⟨d, h1, h2, h3, h4, h5⟩ := h
  have hno : ∀ e ∈ d.L, (e.isB, e.id) ≠ (true, hashB K b) := fun e he h => by
    obtain ⟨-, -, g3, -⟩ := (h2.ents e he).blob
    exact hb (blobE e) ((h2.mem _).2 ⟨e, he, rfl⟩) (by rw [← g3]; exact (Prod.mk.inj h).2)
  refine (gblob_no K q d (hashB K b) w h1 hL h2.ready (hashB_length _ _) hno).mono ?_
  rintro r w' ⟨rfl, hB⟩
  exact ⟨rfl, ⟨d, h1.below hB, h2, h3, h4, fun x hx => Nat.lt_of_lt_of_le (h5 x hx) hB.size⟩, hB⟩
theorem box_len {K : List Int} {w : World} {q : HvP} {n k : Nat} {line pins : List (List UInt8)} {S : List Nat} (h : BoxAt K w q n k line pins S) :
    Calls Tryd.prog 26 #[.pointer (some ⟨q.p, 0, none⟩)] w fun r w' => r = .returned (.int .i64 line.length) ∧ w = w' := by
  obtain ⟨d, h1, h2, h3, h4, h5⟩ := h
  rw [h2.len]
  exact hlen_any q d w h1
theorem BSt.repin {K : List Int} {d : HvD} {n k : Nat} {line : List (List UInt8)} (h : BSt K d n k line) (pins : List (List UInt8)) : BSt K { d with pins := pins } n k line := ⟨h.works, h.room, h.dead, h.life, h.clk, h.low, h.ents, h.ids, h.line⟩
theorem box_pin {K : List Int} {w : World} {q : HvP} {n k : Nat} {line pins : List (List UInt8)} {S : List Nat} {A : Option Addr} {cap : Nat} {ds : List (List UInt8)} (h : BoxAt K w q n k line pins S) (hD : Digs w w.heap.size A ds) (hA : ∀ a, A = some a → a.block ∉ S) (hn : ds.length ≤ maxLen) (h32 : ∀ x ∈ ds, x.length = 32) :
    Calls Tryd.prog 25 #[.pointer (some ⟨q.p, 0, none⟩), .slice A ds.length cap] w fun r w' => r = .returned (.tuple #[]) ∧ BoxAt K w' q n k line (pinsAt pins ds ds.length) S ∧ Only S w w' := by
  obtain ⟨d, h1, h2, h3, h4, h5⟩ := h
  refine (pin_any q d A cap ds w h1 hD (fun a ha hm => hA a ha (h4 _ hm)) hn h32).mono ?_
  rintro r w' ⟨rfl, ha, hO⟩
  exact ⟨rfl, ⟨_, ha, h2.repin _, by rw [h3], h4, fun x hx => Nat.lt_of_lt_of_le (h5 x hx) hO.size⟩, hO.mono (by intro x hx; simp at hx; rw [hx]; exact h4 _ (by simp [HvP.own]))⟩

theorem BoxAt.apart {K : List Int} {w w' : World} {q : HvP} {n k : Nat} {line pins : List (List UInt8)} {S T : List Nat} (h : BoxAt K w q n k line pins S) (ho : Only T w w') (hT : ∀ x ∈ S, x ∉ T) : BoxAt K w' q n k line pins S := by
  obtain ⟨d, h1, h2, h3, h4, h5⟩ := h
  exact ⟨d, h1.keep (fun x hx => ho.block x (h5 x (h4 x hx)) (hT x (h4 x hx))), h2, h3, h4, fun x hx => Nat.lt_of_lt_of_le (h5 x hx) ho.size⟩
/-- what PutBlob answers; the line then -/
def putA (K : List Int) (n : Nat) (pins line : List (List UInt8)) (b : List UInt8) : Int × List (List UInt8) :=
  if b ∈ line then (0, mv line b)
  else if line.length < n then (0, line ++ [b])
  else match line.find? (fun x => decide (hashB K x ∉ pins)) with
    | some x => (0, line.filter (fun y => decide (y ≠ x)) ++ [b])
    | none => (11, line)
end Go.Proofs.YteihfoacdocgkaaDoor
