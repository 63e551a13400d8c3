/-
  Layer 17's laws: awake.
-/
import Derived.Test.YtfbjbhddapoopaaDoorHaQ
set_option linter.unusedVariables false
set_option linter.unusedSimpArgs false
namespace Go.Proofs.YtfbjbhddapoopaaDoor
open Go.RowKit
attribute [local go_sem] Lb.ba_get Lb.ba_cut Lb.ba_add Lb.ba_size Lb.take_rest

/-- a list that was sent, apart from a fetch's own blocks -/
def Kept (w : World) (S : List Nat) (v : Value) (peer : Int) (out : List UInt8) (ats : List Int) : Prop := (∃ B, Asks w B v peer out ats) ∧ Apart v S
theorem Bag0.lt {w : World} {B size m : Nat} {a : Addr} {n c : Nat} {cs : List Value} (h : Bag0 w B size (.slice (some a) n c) m cs) : a.block < w.heap.size := by
  rcases h with ⟨h1, -, -⟩ | ⟨g, cap, h1, -, hb⟩
  · cases h1
  · injection h1 with e; injection e with e; subst e; exact hb.lt
theorem Bag0.apart {w w' : World} {B size m : Nat} {v : Value} {cs : List Value} {S : List Nat} (h : Bag0 w B size v m cs) (ho : Only S w w') (ha : Apart v S) : Bag0 w' B size v m cs := by
  rcases h with h | ⟨g, cap, rfl, hg, hb⟩
  · exact .inl h
  · exact .inr ⟨g, cap, rfl, hg, hb.keep (ho.block g hb.lt (ha _ _ _ rfl))⟩
theorem Kept.step {w w' : World} {S S' : List Nat} {v : Value} {peer : Int} {out : List UInt8} {ats : List Int} (h : Kept w S v peer out ats) (ho : Only S w w') (hS : ∀ k ∈ S', k ∈ S ∨ w.heap.size ≤ k) : Kept w' S' v peer out ats := by
  obtain ⟨⟨B, hA⟩, ha⟩ := h
  refine ⟨⟨B, Bag0.apart hA ho ha⟩, fun a n c e hm => ?_⟩
  subst e
  rcases hS _ hm with h1 | h1
  · exact ha a n c rfl h1
  · have := Bag0.lt hA; omega
theorem Kept.below {w w' : World} {S : List Nat} {v : Value} {peer : Int} {out : List UInt8} {ats : List Int} (h : Kept w S v peer out ats) (hb : Below w.heap.size w w') : Kept w' S v peer out ats := by
  obtain ⟨⟨B, hA⟩, ha⟩ := h
  exact ⟨⟨B, Bag0.below hA hb⟩, ha⟩
theorem asksCells_at (pe : Int) (out : List UInt8) (ho : out.length = 32) : ∀ (ats : List Int) (i : Nat) (x : Int) (j : Nat) (u : Value), ats[i]? = some x → (sentCells pe (askFr out x))[j]? = some u → (asksCells pe out ats)[i * 238 + j]? = some u
  | [], i, x, j, u, h, _ => by simp at h
  | y :: ats, 0, x, j, u, h, hu => by
    simp only [List.getElem?_cons_zero, Option.some.injEq] at h
    subst h
    show (sentCells pe (askFr out y) ++ asksCells pe out ats)[0 * 238 + j]? = _
    rw [Nat.zero_mul, Nat.zero_add, List.getElem?_append_left (List.getElem?_eq_some_iff.1 hu).1]; exact hu
  | y :: ats, i + 1, x, j, u, h, hu => by
    have ih := asksCells_at pe out ho ats i x j u (by simpa using h) hu
    show (sentCells pe (askFr out y) ++ asksCells pe out ats)[(i + 1) * 238 + j]? = _
    have hl := sent_len pe (askFr_fit out y ho)
    rw [List.getElem?_append_right (by omega)]
    have e : (i + 1) * 238 + j - (sentCells pe (askFr out y)).length = i * 238 + j := by omega
    rw [e]; exact ih
set_option maxRecDepth 100000 in
/-- one of the frames that were sent: its node, kind, digest, place -/
theorem Kept.at {w : World} {S : List Nat} {v : Value} {pe : Int} {out : List UInt8} {ats : List Int} (h : Kept w S v pe out ats) (ho : out.length = 32) (i : Nat) (x : Int) (hi : ats[i]? = some x) :
    ∃ g cap, v = .slice (some ⟨g, 0, none⟩) ats.length cap ∧ g < w.heap.size ∧ w.cell? ⟨g, i * 238, none⟩ = some (.int .i64 pe) ∧ w.cell? ⟨g, i * 238 + 1, none⟩ = some (.int .i64 6) ∧ w.cell? ⟨g, i * 238 + 135, none⟩ = some (.int .i64 x) ∧ w.rangeAt g (i * 238 + 103) (byV out) := by
  obtain ⟨⟨B, hA⟩, -⟩ := h
  have hil := (List.getElem?_eq_some_iff.1 hi).1
  rcases hA with ⟨-, h1, -⟩ | ⟨g, cap, rfl, hg, hb⟩
  · omega
  · obtain ⟨a0, a1, a2, a3, a4, a5⟩ := fr_at (askFr_fit out x ho)
    have hl := sent_len pe (askFr_fit out x ho)
    have s0 : (sentCells pe (askFr out x))[0]? = some (.int .i64 pe) := by unfold sentCells; exact List.getElem?_cons_zero
    have s1 : (sentCells pe (askFr out x))[1]? = some (.int .i64 6) := by unfold sentCells; rw [List.getElem?_cons_succ]; exact a0
    have s135 : (sentCells pe (askFr out x))[134 + 1]? = some (.int .i64 x) := by unfold sentCells; rw [List.getElem?_cons_succ]; exact a2
    have so : ∀ k u, (byV out)[k]? = some u → (sentCells pe (askFr out x))[102 + k + 1]? = some u := fun k u hu => by unfold sentCells; rw [List.getElem?_cons_succ]; exact a4 k u hu
    refine ⟨g, cap, rfl, hb.lt, hb.holds _ _ (asksCells_at pe out ho ats i x 0 _ hi s0), hb.holds _ _ (asksCells_at pe out ho ats i x 1 _ hi s1), hb.holds _ _ (asksCells_at pe out ho ats i x 135 _ hi s135), fun k u hu => ?_⟩
    have := hb.holds _ _ (asksCells_at pe out ho ats i x (102 + k + 1) _ hi (so k u hu))
    have e1 : i * 238 + 103 + k = i * 238 + (102 + k + 1) := by omega
    rw [e1]; exact this
theorem zeroFr_ok (w : World) : zeroFr.Ok w := ⟨zeroFr_fit, by decide, by decide, by decide, by decide, by decide, ⟨rfl, (fun d hd => by cases hd), by decide, by decide, by decide, fun i hi => absurd hi (by simp [zeroFr, zeroMani])⟩⟩
theorem maniFr_ok {w : World} {m : ManiD} (x : Int) (hm : m.Ok w w.heap.size) : (maniFr x m).Ok w := ⟨maniFr_fit x m hm.whole, by show (-9223372036854775808 : Int) ≤ 7; decide, by show (7 : Int) ≤ 9223372036854775807; decide, by show (-9223372036854775808 : Int) ≤ 0; decide, by show (0 : Int) ≤ 9223372036854775807; decide, Nat.zero_le _, hm⟩
theorem partFr_ok (w : World) (x : Int) (o : List UInt8) (i : Nat) (t : List UInt8) (ho : o.length = 32) (hi : i ≤ 1000) (ht : t.length ≤ 140737488355328) : (partFr x o i t).Ok w :=
  ⟨partFr_fit x o i t ho, by show (-9223372036854775808 : Int) ≤ 8; decide, by show (8 : Int) ≤ 9223372036854775807; decide, by show (-9223372036854775808 : Int) ≤ (i : Int); omega, by show (i : Int) ≤ 9223372036854775807; omega, ht, (zeroFr_ok w).mani⟩

/-- the run of awake, plain -/
theorem awake_plain (K : List Int) (s : List UInt8) (hs : s.length = 70) (m : ManiD) (hm : OwnM K m s) :
    ∃ d1 d2 d3 d4 : HlD, Hl.tick (Hl.new (hashB K s) 2) = (d1, [-1]) ∧ hearOf K d1 (maniFr 2 m) = (d2, [0, 1]) ∧ hearOf K d2 (partFr 2 (hashB K s) (1 : Nat) (chunk s 1)) = (d3, []) ∧ hearOf K d3 (partFr 2 (hashB K s) (0 : Nat) (chunk s 0)) = (d4, []) ∧ d4.done = true ∧ d4.failed = false ∧ d4.blob = s ∧
      (d1.peer = 2 ∧ d1.out = hashB K s) ∧ (d2.peer = 2 ∧ d2.out = hashB K s) ∧ (d3.peer = 2 ∧ d3.out = hashB K s) := by
  have hl : s.length ≤ 512 := by omega
  have hn : (chunks s).length = 2 := by rw [chunks_length, hs]
  have o0 := Hl.own_new K s 2
  have t1 := Hl.tick_strip (Hl.new (hashB K s) 2)
  have es : Hl.strip (Hl.new (hashB K s) 2) = Hl.new [] 2 := rfl
  rw [es] at t1
  have o1 := Hl.own_tick o0
  obtain ⟨d1, hd1⟩ : ∃ d, d = (Hl.tick (Hl.new (hashB K s) 2)).1 := ⟨_, rfl⟩
  have e1 : (Hl.tick (Hl.new (hashB K s) 2)).2 = [-1] := by have := congrArg (·.2) t1; rw [show (Hl.tick (Hl.new (hashB K s) 2)).2 = (Hl.tick (Hl.new [] 2)).2 from this.symm]; rfl
  have s1 : Hl.strip d1 = (Hl.tick (Hl.new [] 2)).1 := by rw [hd1]; exact (congrArg (·.1) t1).symm
  rw [← hd1] at o1
  have p1 : d1.peer = 2 := by have := congrArg HlD.peer s1; exact this
  have g2 := Hl.own_mani hl hm o1
  rw [p1, s1, hn] at g2
  obtain ⟨d2, hd2⟩ : ∃ d, d = (hearOf K d1 (maniFr 2 m)).1 := ⟨_, rfl⟩
  obtain ⟨o2, s2, a2⟩ := g2
  rw [← hd2] at o2 s2
  have p2 : d2.peer = 2 := by have := congrArg HlD.peer s2; exact this
  have g3 := Hl.own_part hl 1 (by omega) o2
  rw [p2, s2] at g3
  obtain ⟨o3, s3, a3⟩ := g3
  obtain ⟨d3, hd3⟩ : ∃ d, d = (hearOf K d2 (partFr 2 (hashB K s) (1 : Nat) (chunk s 1))).1 := ⟨_, rfl⟩
  rw [← hd3] at o3 s3
  have p3 : d3.peer = 2 := by have := congrArg HlD.peer s3; exact this
  have g4 := Hl.own_part hl 0 (by omega) o3
  rw [p3, s3] at g4
  obtain ⟨o4, s4, a4⟩ := g4
  have f4 : (hearOf K d3 (partFr 2 (hashB K s) (0 : Nat) (chunk s 0))).1.done = true := by have := congrArg HlD.done s4; exact this
  have f5 : (hearOf K d3 (partFr 2 (hashB K s) (0 : Nat) (chunk s 0))).1.failed = false := by have := congrArg HlD.failed s4; exact this
  exact ⟨d1, d2, d3, _, by rw [← e1, hd1], by rw [hd2]; exact Prod.ext rfl a2, by rw [hd3]; exact Prod.ext rfl a3, Prod.ext rfl a4, f4, f5, o4.blob f4, ⟨p1, o1.out⟩, ⟨p2, o2.out⟩, ⟨p3, o3.out⟩⟩
end Go.Proofs.YtfbjbhddapoopaaDoor
