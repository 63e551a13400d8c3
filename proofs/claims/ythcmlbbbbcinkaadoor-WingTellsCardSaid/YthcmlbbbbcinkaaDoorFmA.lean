/-
  Layer 3: a manifest's bytes, there and back, in plain lists.
-/
import Derived.Test.YthcmlbbbbcinkaaDoorBase
import Derived.Test.YthcmlbbbbcinkaaDoorCoF
import Derived.Test.YthcmlbbbbcinkaaDoorRcD
set_option linter.unusedVariables false
set_option linter.unusedSimpArgs false
namespace Go.Proofs.YthcmlbbbbcinkaaDoor
open Pl

/-- a manifest's bytes -/
def encB (m : ManiD) : List UInt8 := srow [m.whole, num m.size, m.parts.flatten]
/-- what Encode answers -/
def encS (m : ManiD) : List UInt8 × Int := if goodS m.size m.parts.length then (encB m, 0) else ([], 1)

structure ManiWf (m : ManiD) : Prop where
  whole : m.whole.length = 32
  each : ∀ d ∈ m.parts, d.length = 32
  lo : -9223372036854775808 ≤ m.size
  hi : m.size ≤ 9223372036854775807
theorem ManiD.Ok.wf {w : World} {B : Nat} {m : ManiD} (h : m.Ok w B) : ManiWf m := ⟨h.whole, h.each, h.lo, h.hi⟩

theorem flat32_length : ∀ (ds : List (List UInt8)), (∀ d ∈ ds, d.length = 32) → ds.flatten.length = 32 * ds.length
  | [], _ => rfl
  | d :: ds, h => by
    have := flat32_length ds (fun x hx => h x (by simp [hx]))
    have := h d (by simp)
    simp only [List.flatten_cons, List.length_append, List.length_cons]
    omega
theorem flat32_inj : ∀ (a b : List (List UInt8)), (∀ d ∈ a, d.length = 32) → (∀ d ∈ b, d.length = 32) → a.flatten = b.flatten → a = b
  | [], [], _, _, _ => rfl
  | [], y :: b, _, hb, h => by
    have := hb y (by simp)
    have h2 := congrArg List.length h
    simp only [List.flatten_cons, List.flatten_nil, List.length_append, List.length_nil] at h2; omega
  | x :: a, [], ha, _, h => by
    have := ha x (by simp)
    have h2 := congrArg List.length h
    simp only [List.flatten_cons, List.flatten_nil, List.length_append, List.length_nil] at h2; omega
  | x :: a, y :: b, ha, hb, h => by
    have hx := ha x (by simp)
    have hy := hb y (by simp)
    simp only [List.flatten_cons] at h
    obtain ⟨e1, e2⟩ := List.append_inj h (by omega)
    rw [e1, flat32_inj a b (fun d hd => ha d (by simp [hd])) (fun d hd => hb d (by simp [hd])) e2]

theorem sameM_iff (m n : ManiD) : sameM m n = true ↔ m.whole = n.whole ∧ m.size = n.size ∧ m.parts = n.parts := by
  unfold sameM
  simp
theorem sameM_self (m : ManiD) : sameM m m = true := (sameM_iff m m).2 ⟨rfl, rfl, rfl⟩

theorem good_bounds {s : Int} {n : Nat} (h : goodS s n = true) : 0 ≤ s ∧ s ≤ 512 ∧ n ≤ 8 := by
  unfold goodS at h
  simp only [decide_eq_true_eq] at h
  omega

/-- what a manifest's bytes are read as, row by row -/
theorem rd_encB (m : ManiD) (hm : ManiWf m) (hg : goodS m.size m.parts.length = true) : rdRow (encB m) 3 = some ([m.whole, num m.size, m.parts.flatten], []) := by
  have hb := good_bounds hg
  have hf := flat32_length m.parts hm.each
  have hn := num_length_le m.size hm.lo hm.hi
  have hw := hm.whole
  have := rd_of_row [m.whole, num m.size, m.parts.flatten] [] 3 (by simp) (by
    intro t ht
    simp only [List.mem_cons, List.not_mem_nil, or_false] at ht
    rcases ht with rfl | rfl | rfl <;> omega)
  rw [List.append_nil, if_pos (by simp)] at this
  exact this

theorem encB_inj {m n : ManiD} (hm : ManiWf m) (hn : ManiWf n) (gm : goodS m.size m.parts.length = true) (gn : goodS n.size n.parts.length = true) (h : encB m = encB n) : sameM m n = true := by
  have h1 := rd_encB m hm gm
  rw [h, rd_encB n hn gn] at h1
  simp only [Option.some.injEq, Prod.mk.injEq, List.cons.injEq, and_true] at h1
  obtain ⟨e1, e2, e3⟩ := h1
  have e4 : n.size = m.size := (num_inj (x := []) (y := []) hn.lo hn.hi hm.lo hm.hi (by rw [List.append_nil, List.append_nil]; exact e2)).1
  rw [sameM_iff]
  exact ⟨e1.symm, e4.symm, (flat32_inj _ _ hn.each hm.each e3).symm⟩
theorem encB_same {m n : ManiD} (h : sameM m n = true) : encB m = encB n := by
  obtain ⟨h1, h2, h3⟩ := (sameM_iff m n).1 h
  unfold encB
  rw [h1, h2, h3]
theorem encB_iff {m n : ManiD} (hm : ManiWf m) (hn : ManiWf n) (gm : goodS m.size m.parts.length = true) (gn : goodS n.size n.parts.length = true) : (encB m == encB n) = sameM m n := by
  rw [Bool.eq_iff_iff, beq_iff_eq]
  exact ⟨encB_inj hm hn gm gn, encB_same⟩

/-- the bytes s are those of the manifest m, which can be -/
def DecYes (s : List UInt8) (m : ManiD) : Prop := s = encB m ∧ ManiWf m ∧ goodS m.size m.parts.length = true
/-- what Decode answers -/
def DecOf (s : List UInt8) (m : ManiD) (e : Int) : Prop := (e = 0 ∧ DecYes s m) ∨ (e = 3 ∧ m = zeroMani ∧ ∀ x, ¬ DecYes s x)
theorem DecOf.same {s : List UInt8} {m n : ManiD} {e f : Int} (h : DecOf s m e) (k : DecOf s n f) : sameM m n = true ∧ e = f := by
  rcases h with ⟨rfl, hy⟩ | ⟨rfl, rfl, hn⟩
  · rcases k with ⟨rfl, ky⟩ | ⟨rfl, rfl, kn⟩
    · exact ⟨encB_inj hy.2.1 ky.2.1 hy.2.2 ky.2.2 (hy.1.symm.trans ky.1), rfl⟩
    · exact absurd hy (kn _)
  · rcases k with ⟨rfl, ky⟩ | ⟨rfl, rfl, kn⟩
    · exact absurd ky (hn _)
    · exact ⟨sameM_self _, rfl⟩

/-- a text's pieces of 32 bytes -/
def cut32 (t : List UInt8) (j : Nat) : List UInt8 := (t.drop (32 * j)).take 32
def cuts (t : List UInt8) (n : Nat) : List (List UInt8) := (List.range n).map (cut32 t)
theorem cuts_length (t : List UInt8) (n : Nat) : (cuts t n).length = n := by simp [cuts]
theorem cuts_succ (t : List UInt8) (n : Nat) : cuts t (n + 1) = cuts t n ++ [cut32 t n] := by simp [cuts, List.range_succ]
theorem cut32_length (t : List UInt8) (j n : Nat) (h : t.length = 32 * n) (hj : j < n) : (cut32 t j).length = 32 := by
  unfold cut32
  rw [List.length_take, List.length_drop]
  omega
theorem cuts_each (t : List UInt8) (n : Nat) (h : t.length = 32 * n) : ∀ d ∈ cuts t n, d.length = 32 := by
  intro d hd
  obtain ⟨j, hj, rfl⟩ := List.mem_map.1 hd
  exact cut32_length t j n h (List.mem_range.1 hj)
theorem cuts_flat (t : List UInt8) : ∀ n, (cuts t n).flatten = t.take (32 * n)
  | 0 => by simp [cuts]
  | n + 1 => by
    rw [cuts_succ, List.flatten_append, cuts_flat t n]
    simp only [List.flatten_cons, List.flatten_nil, List.append_nil]
    unfold cut32
    rw [show 32 * (n + 1) = 32 * n + 32 by omega, List.take_add]

/-- bytes that are read as a row of three, its number and its digests: they are the manifest's own -/
theorem decYes_of {s a b c : List UInt8} {n : Int} {k : Nat} (hr : rdRow s 3 = some ([a, b, c], [])) (ha : a.length = 32) (hc : c.length = 32 * k) (hb : rdNum b = some (n, [])) (hg : goodS n k = true) (A : Option Addr) (cap : Nat) :
    DecYes s ⟨a, n, A, cap, cuts c k⟩ := by
  have h1 := row_of_rd hr
  have h2 := num_of_rd hb
  have h3 := rdNum_bounds hb
  rw [List.append_nil] at h1 h2
  refine ⟨?_, ⟨ha, cuts_each c k hc, h3.1, h3.2.1⟩, by rw [cuts_length]; exact hg⟩
  unfold encB
  simp only
  rw [cuts_flat, List.take_of_length_le (by omega), h2, h1]
/-- a manifest's bytes are read so -/
theorem DecYes.rd {s : List UInt8} {m : ManiD} (h : DecYes s m) : rdRow s 3 = some ([m.whole, num m.size, m.parts.flatten], []) ∧ m.whole.length = 32 ∧ m.parts.flatten.length = 32 * m.parts.length ∧ rdNum (num m.size) = some (m.size, []) ∧ goodS m.size m.parts.length = true := by
  obtain ⟨rfl, hm, hg⟩ := h
  have h2 := rd_of_num m.size [] hm.lo hm.hi
  rw [List.append_nil] at h2
  exact ⟨rd_encB m hm hg, hm.whole, flat32_length _ hm.each, h2, hg⟩
/-- no row: none -/
theorem decNo_row {s : List UInt8} (h : ∀ a b c, rdRow s 3 ≠ some ([a, b, c], [])) : ∀ x, ¬ DecYes s x := fun x hx => h _ _ _ hx.rd.1
theorem decNo_of {s a b c : List UInt8} (hr : rdRow s 3 = some ([a, b, c], [])) (h : a.length ≠ 32 ∨ c.length % 32 ≠ 0 ∨ (∀ n, rdNum b ≠ some (n, [])) ∨ ∃ n, rdNum b = some (n, []) ∧ goodS n (c.length / 32) = false) : ∀ x, ¬ DecYes s x := by
  intro x hx
  obtain ⟨h1, h2, h3, h4, h5⟩ := hx.rd
  rw [h1] at hr
  simp only [Option.some.injEq, Prod.mk.injEq, List.cons.injEq, and_true] at hr
  obtain ⟨rfl, rfl, rfl⟩ := hr
  rcases h with h | h | h | ⟨n, hn, hg⟩
  · exact h h2
  · omega
  · exact h _ h4
  · rw [h4] at hn
    simp only [Option.some.injEq, Prod.mk.injEq, and_true] at hn
    subst hn
    rw [show x.parts.flatten.length / 32 = x.parts.length by omega] at hg
    rw [h5] at hg
    cases hg
/-- Encode's answer is read again -/
theorem decOf_enc {m k : ManiD} {e : Int} (hm : ManiWf m) (hg : goodS m.size m.parts.length = true) (h : DecOf (encB m) k e) : e = 0 ∧ sameM k m = true := by
  have h2 : DecOf (encB m) m 0 := .inl ⟨rfl, rfl, hm, hg⟩
  exact ⟨(h.same h2).2, (h.same h2).1⟩
end Go.Proofs.YthcmlbbbbcinkaaDoor
