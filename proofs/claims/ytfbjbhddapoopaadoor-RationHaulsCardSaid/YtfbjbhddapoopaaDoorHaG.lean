/-
  Layer 17 (haul): the walk of Hear: frames that change nothing.
-/
import Derived.Test.YtfbjbhddapoopaaDoorHaF
import Derived.Test.YtfbjbhddapoopaaDoorFrP
set_option linter.unusedVariables false
set_option linter.unusedSimpArgs false
namespace Go.Proofs.YtfbjbhddapoopaaDoor
open Go.RowKit
attribute [local go_sem] Lb.ba_get Lb.ba_cut Lb.ba_add Lb.ba_size Lb.take_rest


def hearOf (K : List Int) (d : HlD) (f : FrD) : HlD × List Int := Hl.hear K d f.kind f.from_ f.out f.at_ f.data (f.mani.whole, f.mani.size, f.mani.parts)
def HearPost (K : List Int) (w : World) (S : List Nat) (p : Nat) (d : HlD) (f : FrD) : Ending → World → Prop := ActPost w S p d.peer d.out (hearOf K d f).2 (hearOf K d f).1

/-- nothing has come of it -/
theorem hear_same {K : List Int} {w w' : World} {S : List Nat} {p : Nat} {d : HlD} {f : FrD} (h : HlAt w S p d) (hh : hearOf K d f = (d, [])) (hb : Below w.heap.size w w') : HearPost K w S p d f (.returned (.slice none 0 0)) w' := by
  unfold HearPost
  rw [hh]
  exact ⟨_, S, rfl, Bag0.nil _ _ _, h.below hb, Only.of_below hb, fun k hk => .inl hk, apart_nil _ _ _⟩

set_option maxHeartbeats 4000000 in
set_option maxRecDepth 100000 in
theorem hear_closed (K : List Int) (p : Nat) (S : List Nat) (d : HlD) (f : FrD) (w : World) (h : HlAt w S p d) (hf : f.Ok w) (hc : d.done = true ∨ d.failed = true ∨ f.from_ ≠ d.peer) :
    Calls Tryd.prog 19 #[.pointer (some ⟨p, 0, none⟩), .agg f.row] w (HearPost K w S p d f) := by
  have hh : hearOf K d f = (d, []) := by unfold hearOf Hl.hear; rw [if_pos hc]
  have fin := Lib.hid (fun w' (hb : Below w.heap.size w w') => hear_same (K := K) h hh hb)
  obtain ⟨ok, lt, pS, mv, cv, hm, -⟩ := h
  have ho := ok.out
  have hB := (Below.refl w.heap.size w).alloc (Nat.le_refl _) (.cells f.row 44)
  have hm1 := below_keep hB hm
  have fa := fr_mem hf.fit (heap_alloc_new w (.cells f.row 44))
  obtain ⟨-, -, -, c35, -, -, -, -⟩ := hl_cells ho hm1
  have f1 := fa.from_
  have hop := Lib.hid (fun n => (open_any p d mv cv ((w.alloc (.cells f.row 44)).drewN n) ho hm1).mono fun _ _ h => And.intro h.1 h.2.symm)
  have HB := Lib.hid hB
  obtain ⟨w1, hw1⟩ : ∃ y, y = w.alloc (.cells f.row 44) := ⟨_, rfl⟩
  obtain ⟨b, hb⟩ : ∃ y, y = w.heap.size := ⟨_, rfl⟩
  go_enter Tryd.func19, Tryd.ntmps19
  go_upto_region 1 with fail
  rw [← hw1] at c35 f1 hop HB ⊢
  rw [← hb] at f1 ⊢
  have Hb := Lib.hid hb
  clear hw1 hb fa hm1 hB hm hf lt pS ok ho hh
  by_cases hcl : (!d.done && !d.failed) = false
  · rw [hcl] at hop
    clear hcl hc
    go_quiet ((go_at_call 60; exact Calls.quiet_of_same (hop.out _)))
    go_wp2_with fail
    (try simp only [Exit.inBlock, Exit.then])
    refine bodyPost_ret (results_tmp rfl _ _ _) rfl ?_
    exact fin.out _ (below_drewN'' HB.out _)
  · have hne : f.from_ ≠ d.peer := by
      rcases hc with h | h | h
      · rw [h] at hcl; simp at hcl
      · rw [h] at hcl; simp at hcl
      · exact h
    have hcl : (!d.done && !d.failed) = true := by simpa using hcl
    rw [hcl] at hop
    obtain ⟨x, hx⟩ : ∃ x, x = f.from_ := ⟨_, rfl⟩
    obtain ⟨y, hy⟩ : ∃ y, y = d.peer := ⟨_, rfl⟩
    rw [← hx, ← hy] at hne
    rw [← hx] at f1
    rw [← hy] at c35
    have hb1 : (x != y) = true := by simp [hne]
    have hb2 : (x == y) = false := by simp [hne]
    clear hcl hc hne hx hy
    go_quiet ((go_at_call 60; exact Calls.quiet_of_same (hop.out _)))
    go_wp2_with fail
    (try simp only [Exit.inBlock, Exit.then])
    refine bodyPost_ret (results_tmp rfl _ _ _) rfl ?_
    exact fin.out _ (below_drewN'' HB.out _)
end Go.Proofs.YtfbjbhddapoopaaDoor
