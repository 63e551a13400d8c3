/-
  Layer 19 (wing): a frame with what its kind has alone.
-/
import Derived.Test.YthcmlbbbbcinkaaDoorWiL
set_option linter.unusedVariables false
set_option linter.unusedSimpArgs false
namespace Go.Proofs.YthcmlbbbbcinkaaDoor
open Go.RowKit Pl
attribute [local go_sem] Lb.ba_get Lb.ba_cut Lb.ba_add Lb.ba_size Lb.take_rest
namespace Wi

theorem Fm.Wf.put_seq {f : Fm} (h : f.Wf) {n : Int} (hn : I64 n) : ({ f with seq := n } : Fm).Wf := ⟨h.kind, h.from_, hn, h.node, h.key, h.rcd, h.out, h.at_, h.data, h.haze, h.whole, h.size, h.parts, h.np, h.rngs, h.nr, h.items, h.ni, h.mems, h.nm⟩
theorem Fm.Wf.put_node {f : Fm} (h : f.Wf) {n : Int} (hn : I64 n) : ({ f with node := n } : Fm).Wf := ⟨h.kind, h.from_, h.seq, hn, h.key, h.rcd, h.out, h.at_, h.data, h.haze, h.whole, h.size, h.parts, h.np, h.rngs, h.nr, h.items, h.ni, h.mems, h.nm⟩
theorem Fm.Wf.put_at {f : Fm} (h : f.Wf) {n : Int} (hn : I64 n) : ({ f with at_ := n } : Fm).Wf := ⟨h.kind, h.from_, h.seq, h.node, h.key, h.rcd, h.out, hn, h.data, h.haze, h.whole, h.size, h.parts, h.np, h.rngs, h.nr, h.items, h.ni, h.mems, h.nm⟩
theorem Fm.Wf.put_key {f : Fm} (h : f.Wf) {d : Bs} (hd : d.length = 32) : ({ f with key := d } : Fm).Wf := ⟨h.kind, h.from_, h.seq, h.node, hd, h.rcd, h.out, h.at_, h.data, h.haze, h.whole, h.size, h.parts, h.np, h.rngs, h.nr, h.items, h.ni, h.mems, h.nm⟩
theorem Fm.Wf.put_out {f : Fm} (h : f.Wf) {d : Bs} (hd : d.length = 32) : ({ f with out := d } : Fm).Wf := ⟨h.kind, h.from_, h.seq, h.node, h.key, h.rcd, hd, h.at_, h.data, h.haze, h.whole, h.size, h.parts, h.np, h.rngs, h.nr, h.items, h.ni, h.mems, h.nm⟩
theorem Fm.Wf.put_haze {f : Fm} (h : f.Wf) {d : Bs} (hd : d.length = 64) : ({ f with haze := d } : Fm).Wf := ⟨h.kind, h.from_, h.seq, h.node, h.key, h.rcd, h.out, h.at_, h.data, hd, h.whole, h.size, h.parts, h.np, h.rngs, h.nr, h.items, h.ni, h.mems, h.nm⟩
theorem Fm.Wf.put_data {f : Fm} (h : f.Wf) {d : Bs} (hd : d.length ≤ maxLen) : ({ f with data := d } : Fm).Wf := ⟨h.kind, h.from_, h.seq, h.node, h.key, h.rcd, h.out, h.at_, hd, h.haze, h.whole, h.size, h.parts, h.np, h.rngs, h.nr, h.items, h.ni, h.mems, h.nm⟩
theorem Fm.Wf.put_found {f : Fm} (h : f.Wf) {b : Bool} : ({ f with found := b } : Fm).Wf := ⟨h.kind, h.from_, h.seq, h.node, h.key, h.rcd, h.out, h.at_, h.data, h.haze, h.whole, h.size, h.parts, h.np, h.rngs, h.nr, h.items, h.ni, h.mems, h.nm⟩
theorem Fm.Wf.put_rcd {f : Fm} (h : f.Wf) {r : Rc} (hr : r.Wf) : ({ f with rcd := r } : Fm).Wf := ⟨h.kind, h.from_, h.seq, h.node, h.key, hr, h.out, h.at_, h.data, h.haze, h.whole, h.size, h.parts, h.np, h.rngs, h.nr, h.items, h.ni, h.mems, h.nm⟩
theorem Fm.Wf.put_mani {f : Fm} (h : f.Wf) {d : Bs} {n : Int} {l : List Bs} (hd : d.length = 32) (hn : I64 n) (hl : ∀ x ∈ l, x.length = 32) (hm : l.length ≤ maxLen) : ({ f with whole := d, size := n, parts := l } : Fm).Wf := ⟨h.kind, h.from_, h.seq, h.node, h.key, h.rcd, h.out, h.at_, h.data, h.haze, hd, hn, hl, hm, h.rngs, h.nr, h.items, h.ni, h.mems, h.nm⟩
theorem Fm.Wf.put_rngs {f : Fm} (h : f.Wf) {l : List Rg} (hl : ∀ x ∈ l, x.Wf) (hm : l.length ≤ maxLen) : ({ f with rngs := l } : Fm).Wf := ⟨h.kind, h.from_, h.seq, h.node, h.key, h.rcd, h.out, h.at_, h.data, h.haze, h.whole, h.size, h.parts, h.np, hl, hm, h.items, h.ni, h.mems, h.nm⟩
theorem Fm.Wf.put_items {f : Fm} (h : f.Wf) {l : List Rc} (hl : ∀ x ∈ l, x.Wf) (hm : l.length ≤ maxLen) : ({ f with items := l } : Fm).Wf := ⟨h.kind, h.from_, h.seq, h.node, h.key, h.rcd, h.out, h.at_, h.data, h.haze, h.whole, h.size, h.parts, h.np, h.rngs, h.nr, hl, hm, h.mems, h.nm⟩
theorem Fm.Wf.put_mems {f : Fm} (h : f.Wf) {l : List Mb} (hl : ∀ x ∈ l, x.Wf) (hm : l.length ≤ maxLen) : ({ f with mems := l } : Fm).Wf := ⟨h.kind, h.from_, h.seq, h.node, h.key, h.rcd, h.out, h.at_, h.data, h.haze, h.whole, h.size, h.parts, h.np, h.rngs, h.nr, h.items, h.ni, hl, hm⟩
theorem Fm.Wf.put_head {f : Fm} (h : f.Wf) {k n : Int} (hk : I64 k) (hn : I64 n) : ({ f with kind := k, from_ := n } : Fm).Wf := ⟨hk, hn, h.seq, h.node, h.key, h.rcd, h.out, h.at_, h.data, h.haze, h.whole, h.size, h.parts, h.np, h.rngs, h.nr, h.items, h.ni, h.mems, h.nm⟩
/-- where the lists of a bare frame lie -/
def bareA (f : Fm) (x : Adr) : Adr := ⟨if f.kind = 7 then x.PA else none, if f.kind = 7 then x.pc else 0, if f.kind = 9 ∨ f.kind = 10 then x.RA else none, if f.kind = 9 ∨ f.kind = 10 then x.rc else 0, if f.kind = 10 then x.IA else none, if f.kind = 10 then x.ic else 0, x.MA, x.mc⟩
def head3 (f : Fm) : Fm := { zFm with kind := f.kind, from_ := f.from_, mems := f.mems }
def headA (x : Adr) : Adr := { Adr.zero with MA := x.MA, mc := x.mc }
theorem head3_wf {f : Fm} (h : f.Wf) : (head3 f).Wf := (zFm_wf.put_head h.kind h.from_).put_mems h.mems h.nm
theorem bare_wf {f : Fm} (h : f.Wf) : (bare f).Wf := by
  have h0 := head3_wf h
  unfold head3 at h0
  unfold bare
  by_cases k1 : f.kind = 1
  · rw [if_pos k1]; exact h0.put_seq h.seq
  rw [if_neg k1]
  by_cases k2 : f.kind = 2
  · rw [if_pos k2]; exact ((h0.put_seq h.seq).put_node h.node).put_haze h.haze
  rw [if_neg k2]
  by_cases k3 : f.kind = 3
  · rw [if_pos k3]; exact (h0.put_seq h.seq).put_node h.node
  rw [if_neg k3]
  by_cases k4 : f.kind = 4
  · rw [if_pos k4]; exact h0.put_key h.key
  rw [if_neg k4]
  by_cases k5 : f.kind = 5
  · rw [if_pos k5]
    by_cases kf : f.found = true
    · rw [if_pos kf]; exact (((h0.put_key h.key).put_found (b := f.found)).put_node h.node).put_rcd h.rcd
    · rw [if_neg kf]; exact (h0.put_key h.key).put_found (b := f.found)
  rw [if_neg k5]
  by_cases k6 : f.kind = 6
  · rw [if_pos k6]; exact (h0.put_out h.out).put_at h.at_
  rw [if_neg k6]
  by_cases k7 : f.kind = 7
  · rw [if_pos k7]; exact h0.put_mani h.whole h.size h.parts h.np
  rw [if_neg k7]
  by_cases k8 : f.kind = 8
  · rw [if_pos k8]; exact ((h0.put_out h.out).put_at h.at_).put_data h.data
  rw [if_neg k8]
  by_cases k9 : f.kind = 9
  · rw [if_pos k9]; exact h0.put_rngs h.rngs h.nr
  rw [if_neg k9]
  by_cases k10 : f.kind = 10
  · rw [if_pos k10]; exact (h0.put_items h.items h.ni).put_rngs h.rngs h.nr
  rw [if_neg k10]; exact h0
theorem rows_nil {α : Type} {size : Nat} {cells : α → List Value} (w : World) (B : Nat) (A : Option Addr) : RowsAt size cells w B A ([] : List α) := fun i hi => absurd hi (by simp)
theorem digs_none (w : World) (B : Nat) (A : Option Addr) : Digs w B A [] := fun i hi => absurd hi (by simp)
theorem bare_lists (f : Fm) : (bare f).mems = f.mems ∧ (bare f).parts = (if f.kind = 7 then f.parts else []) ∧ (bare f).rngs = (if f.kind = 9 ∨ f.kind = 10 then f.rngs else []) ∧ (bare f).items = (if f.kind = 10 then f.items else []) := by
  unfold bare
  by_cases k1 : f.kind = 1
  · simp [k1, zFm]
  by_cases k2 : f.kind = 2
  · simp [k2, zFm]
  by_cases k3 : f.kind = 3
  · simp [k3, zFm]
  by_cases k4 : f.kind = 4
  · simp [k4, zFm]
  by_cases k5 : f.kind = 5
  · by_cases kf : f.found = true <;> simp [k5, kf, zFm]
  by_cases k6 : f.kind = 6
  · simp [k6, zFm]
  by_cases k7 : f.kind = 7
  · simp [k7, zFm]
  by_cases k8 : f.kind = 8
  · simp [k8, zFm]
  by_cases k9 : f.kind = 9
  · simp [k9, zFm]
  by_cases k10 : f.kind = 10
  · simp [k10, zFm]
  simp [k1, k2, k3, k4, k5, k6, k7, k8, k9, k10, zFm]
theorem bare_ok {w : World} {B : Nat} {f : Fm} {x : Adr} (h : FmOk w B f x) : FmOk w B (bare f) (bareA f x) := by
  obtain ⟨e1, e2, e3, e4⟩ := bare_lists f
  refine ⟨bare_wf h.wf, ?_, ?_, ?_, ?_⟩
  · rw [e2]
    unfold bareA
    by_cases k : f.kind = 7
    · simp only [if_pos k]; exact h.digs
    · simp only [if_neg k]; exact digs_none _ _ _
  · rw [e3]
    unfold bareA
    by_cases k : f.kind = 9 ∨ f.kind = 10
    · simp only [if_pos k]; exact h.rngs
    · simp only [if_neg k]; exact rows_nil _ _ _
  · rw [e4]
    unfold bareA
    by_cases k : f.kind = 10
    · simp only [if_pos k]; exact h.items
    · simp only [if_neg k]; exact rows_nil _ _ _
  · rw [e1]; exact h.mems
theorem wpList_build3f {P : Program} {ops : Array Oper} {rest : List Oper} {o : Oper} {a : Act} {w : World} {Q : Exit → Act → World → Prop} (hg : o.guard = none) (t : TypeId) (i j k : Nat) (x y z : Operand) (ho : o.op = .build t #[(i, x), (j, y), (k, z)])
    (vx vy vz : Value) (hx : a.eval x = vx) (hy : a.eval y = vy) (hz : a.eval z = vz) (C : Array Value) (hB : P.built t [(i, vx), (j, vy), (k, vz)] = some C)
    (h : wpList P ops Q rest (a.put o.dst (.agg C)) w) : wpList P ops Q (o :: rest) a w := by
  have e : ((#[(i, x), (j, y), (k, z)] : Array (Nat × Operand)).map fun (i, x) => (i, a.eval x)).toList = [(i, vx), (j, vy), (k, vz)] := by simp [hx, hy, hz]
  refine wpList_build hg t _ ho ?_ ?_
  · rw [e, hB]; rfl
  · rw [e, hB]; exact h
theorem built_head (k n : Int) (l : List Mb) (A : Option Addr) (c : Nat) : Tryd.prog.built 36 [(0, .int .i64 k), (1, .int .i64 n), (14, .slice A l.length c)] = some ((({ zFm with kind := k, from_ := n, mems := l } : Fm).cells ({ Adr.zero with MA := A, mc := c } : Adr)).toArray) := by
  rw [built_fm, fm_fill0, fm_fill1, fm_fill14 _ _ rfl rfl rfl rfl rfl, fill_none]
end Wi
end Go.Proofs.YthcmlbbbbcinkaaDoor
