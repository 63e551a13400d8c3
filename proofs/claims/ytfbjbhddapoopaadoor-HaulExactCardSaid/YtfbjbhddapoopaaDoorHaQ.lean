/-
  Layer 17's laws: whether acts are more than is asked.
-/
import Derived.Test.YtfbjbhddapoopaaDoorHaO
set_option linter.unusedVariables false
set_option linter.unusedSimpArgs false
namespace Go.Proofs.YtfbjbhddapoopaaDoor
open Go.RowKit
attribute [local go_sem] Lb.ba_get Lb.ba_cut Lb.ba_add Lb.ba_size Lb.take_rest

def Small (ds : List ActF) (i : Nat) : Prop := ∀ j (h : j < ds.length), j < i → (ds[j]).f.data.length ≤ 1000 ∧ (ds[j]).f.mani.parts.length ≤ 40
def GreatPost (ds : List ActF) (w : World) (e : Ending) (w' : World) : Prop := (e = .returned (.bool true) ∨ e = .returned (.bool false) ∧ Small ds 80) ∧ Below w.heap.size w w'
theorem act_cells {w : World} {b o : Nat} {x : ActF} (hf : x.f.Fit) (h : w.rangeAt b o (Value.int .i64 x.kind :: x.f.cells)) :
    w.cell? ⟨b, o, none⟩ = some (.int .i64 x.kind) ∧ w.rangeAt b (o + 1) x.f.cells ∧ w.cell? ⟨b, o + 136, none⟩ = some (.string ⟨x.f.data.toArray⟩) ∧ w.cell? ⟨b, o + 234, none⟩ = some (.slice x.f.mani.A x.f.mani.parts.length x.f.mani.cap) := by
  have hr : w.rangeAt b (o + 1) x.f.cells := fun k v hv => by
    have := h (k + 1) v (by simpa using hv)
    rw [Nat.add_assoc, Nat.add_comm 1 k]; exact this
  obtain ⟨-, -, -, a3, -, a5⟩ := fr_at hf
  refine ⟨h 0 _ rfl, hr, hr 135 _ a3, ?_⟩
  have h33 := x.f.mani.at33 hf.lm
  have := hr 233 _ (a5 33 _ (by simpa [ManiD.row] using h33))
  exact this

set_option maxHeartbeats 4000000 in
set_option maxRecDepth 100000 in
theorem great17_any (A : Option Addr) (cap : Nat) (ds : List ActF) (w : World) (hA : ActsF w w.heap.size A ds) (hl : ds.length ≤ maxLen) :
    Calls Tryd.prog 14 #[.slice A ds.length cap] w (GreatPost ds w) := by
  have HA := Lib.hid hA
  obtain ⟨n, hn⟩ : ∃ n, n = ds.length := ⟨_, rfl⟩
  unfold maxLen at hl
  rw [← hn] at hl ⊢
  have Hn := Lib.hid hn
  clear hn hA
  go_enter Tryd.func14, Tryd.ntmps14
  go_wp2_with fail
  go_loop [3] (fun p => ∃ i : Nat, i ≤ n ∧ i ≤ 80 ∧ p = .int .i64 i ∧ Small ds i) (fun p => 80 - (intOf p).toNat)
  case atStart => exact ⟨0, by omega, by omega, rfl, fun j h h0 => absurd h0 (by omega)⟩
  case round =>
    obtain ⟨i, hi, hi80, rfl, hsm⟩ := hrel
    have Hsm := Lib.hid hsm
    clear hsm
    by_cases h1 : i < n
    · have j1 : (i : Int) < (n : Int) := by omega
      by_cases h2 : i < 80
      · have j2 : (i : Int) < 80 := by omega
        have hid : i < ds.length := by rw [← Hn.out]; exact h1
        obtain ⟨b, o, rfl, hbl, hr, hk⟩ := HA.out i hid
        obtain ⟨-, -, c136, c234⟩ := act_cells hk.fit hr
        obtain ⟨x, hx⟩ : ∃ x, x = ds[i] := ⟨_, rfl⟩
        rw [← hx] at c136 c234
        obtain ⟨dl, hdl⟩ : ∃ y, y = x.f.data := ⟨_, rfl⟩
        obtain ⟨pl, hpl⟩ : ∃ y, y = x.f.mani.parts.length := ⟨_, rfl⟩
        rw [← hdl] at c136
        rw [← hpl] at c234
        have Hx := Lib.hid hx
        have Hdl := Lib.hid hdl
        have Hpl := Lib.hid hpl
        clear hx hdl hpl hr hk HA
        by_cases h3 : 40 < pl
        · have k3 : (40 : Int) < (pl : Int) := by omega
          go_wp2_with fail
          go_ret
          exact ⟨.inl rfl, Below.refl _ _⟩
        · have k3 : ¬ (40 : Int) < (pl : Int) := by omega
          by_cases h4 : 1000 < dl.length
          · have k4 : (1000 : Int) < (dl.length : Int) := by omega
            go_wp2_with fail
            go_ret
            exact ⟨.inl rfl, Below.refl _ _⟩
          · have k4 : ¬ (1000 : Int) < (dl.length : Int) := by omega
            have HS : Hid (Small ds (i + 1)) := Lib.hid (fun j h hj => by
              rcases Nat.lt_or_ge j i with hji | hji
              · exact Hsm.out j h hji
              · obtain rfl : i = j := by omega
                rw [← Hx.out, ← Hdl.out, ← Hpl.out]
                exact ⟨by omega, by omega⟩)
            go_wp2_with fail
            go_round
            case rel => exact ⟨i + 1, by omega, by omega, by go_num, HS.out⟩
            case measure => simp [intOf]; omega
      · have j2 : ¬ (i : Int) < 80 := by omega
        obtain rfl : i = 80 := by omega
        go_wp2_with fail
        go_ret
        exact ⟨.inr ⟨rfl, Hsm.out⟩, Below.refl _ _⟩
    · have j1 : ¬ (i : Int) < (n : Int) := by omega
      go_wp2_with fail
      go_ret
      exact ⟨.inr ⟨rfl, fun j h _ => Hsm.out j h (by rw [← Hn.out] at h; omega)⟩, Below.refl _ _⟩
end Go.Proofs.YtfbjbhddapoopaaDoor
