/-
  Layer 5's laws: lists of texts of the call's own beside a store; numbers.
-/
import Derived.Test.YteihfoacdocgkaaDoorHwBF
set_option linter.unusedVariables false
set_option linter.unusedSimpArgs false
namespace Go.Proofs.YteihfoacdocgkaaDoor
open Go.RowKit Pl Sh
attribute [local go_sem] Lb.ba_get Lb.ba_cut Lb.ba_add Lb.ba_size Lb.take_rest

/-- a list of texts of the call's own, apart from the store's blocks S -/
structure KeptV (w : World) (B : Nat) (v : Value) (ls : List (List UInt8)) (S : List Nat) : Prop where
  bag : Txts w B v ls
  apart : ∀ g n c, v = .slice (some ⟨g, 0, none⟩) n c → g ∉ S
theorem KeptV.lt {w : World} {B : Nat} {v : Value} {ls : List (List UInt8)} {S : List Nat} (h : KeptV w B v ls S) : ∀ g n c, v = .slice (some ⟨g, 0, none⟩) n c → g < w.heap.size := fun g n c e => by
  rcases h.bag with ⟨h1, -, -⟩ | ⟨g', c', h1, -, hB⟩
  · rw [h1] at e; cases e
  · rw [h1] at e
    injection e with e1
    injection e1 with e1
    injection e1 with e1
    rw [← e1]; exact hB.lt
theorem KeptV.step {w w' : World} {B : Nat} {v : Value} {ls : List (List UInt8)} {S S' : List Nat} (h : KeptV w B v ls S) (ho : Only S w w') (hS : ∀ x ∈ S', x ∈ S ∨ w.heap.size ≤ x) : KeptV w' B v ls S' := by
  refine ⟨?_, fun g n c e hx => ?_⟩
  · rcases h.bag with h1 | ⟨g, c, hv, hg, hB⟩
    · exact .inl h1
    · exact .inr ⟨g, c, hv, hg, hB.only ho (h.apart g _ c hv)⟩
  · rcases hS g hx with h1 | h1
    · exact h.apart g n c e h1
    · have := h.lt g n c e; omega
theorem KeptV.below {w w' : World} {B : Nat} {v : Value} {ls : List (List UInt8)} {S : List Nat} (h : KeptV w B v ls S) (hb : Below w.heap.size w w') : KeptV w' B v ls S := h.step (Only.of_below hb) (fun x hx => .inl hx)
theorem KeptV.shape {w : World} {B : Nat} {v : Value} {ls : List (List UInt8)} {S : List Nat} (h : KeptV w B v ls S) : ∃ A c, v = .slice A ls.length c ∧ Strs w w.heap.size A ls := by
  obtain ⟨A, c, hv, -, -⟩ := h.bag.shape
  refine ⟨A, c, hv, fun i hi => ?_⟩
  have hb := h.bag
  rw [hv] at hb
  obtain ⟨g, e, -, hl, hc⟩ := hb.cell i hi
  exact ⟨⟨g, 0, none⟩, e, hl, by rw [Addr.add_lit, Nat.zero_add]; exact hc⟩
/-- a list of texts that is read alone, apart from the store's blocks S -/
structure LineV (w : World) (v : Value) (ls : List (List UInt8)) (S : List Nat) : Prop where
  shape : ∃ A c, v = .slice A ls.length c ∧ ls.length ≤ c ∧ c ≤ maxLen ∧ Strs w w.heap.size A ls ∧ ∀ a, A = some a → a.block < w.heap.size ∧ a.block ∉ S
theorem KeptV.line {w : World} {B : Nat} {v : Value} {ls : List (List UInt8)} {S : List Nat} (h : KeptV w B v ls S) : LineV w v ls S := by
  obtain ⟨A, c, hv, h1, h2⟩ := h.bag.shape
  obtain ⟨A2, c2, hv2, hs⟩ := h.shape
  have hA : A2 = A := by
    have e := hv2.symm.trans hv
    injection e
  subst hA
  refine ⟨A2, c, hv, h2, h1, hs, fun a ha => ?_⟩
  rcases h.bag with ⟨h3, -, -⟩ | ⟨g, c', h3, -, hB⟩
  · rw [hv, ha] at h3; cases h3
  · have e := h3.symm.trans hv
    rw [ha] at e
    injection e with e1
    injection e1 with e1
    subst e1
    exact ⟨hB.lt, h.apart g _ c' h3⟩
theorem LineV.step {w w' : World} {v : Value} {ls : List (List UInt8)} {S S' : List Nat} (h : LineV w v ls S) (ho : Only S w w') (hS : ∀ x ∈ S', x ∈ S ∨ w.heap.size ≤ x) : LineV w' v ls S' := by
  obtain ⟨A, c, hv, h1, h2, hs, ha⟩ := h.shape
  refine ⟨A, c, hv, h1, h2, fun i hi => ?_, fun a e => ⟨Nat.lt_of_lt_of_le (ha a e).1 ho.size, fun hx => ?_⟩⟩
  · obtain ⟨a, e, hl, hc⟩ := hs i hi
    exact ⟨a, e, Nat.lt_of_lt_of_le hl ho.size, (World.cell?_of_block (a := a.add i) (by rw [block_add]; exact ho.block _ hl (ha a e).2)).trans hc⟩
  · rcases hS _ hx with h3 | h3
    · exact (ha a e).2 h3
    · have := (ha a e).1; omega
theorem LineV.below {w w' : World} {v : Value} {ls : List (List UInt8)} {S : List Nat} (h : LineV w v ls S) (hb : Below w.heap.size w w') : LineV w' v ls S := h.step (Only.of_below hb) (fun x hx => .inl hx)
theorem LineV.tail {w : World} {a : Addr} {c : Nat} {x : List UInt8} {ls : List (List UInt8)} {S : List Nat} (h : LineV w (.slice (some a) (ls.length + 1) c) (x :: ls) S) : LineV w (.slice (some (a.add 1)) ls.length (c - 1)) ls S := by
  obtain ⟨A, c', hv, h1, h2, hs, ha⟩ := h.shape
  injection hv with e1 e2 e3
  subst e1
  subst e3
  simp only [List.length_cons] at h1
  refine ⟨_, _, rfl, by omega, by omega, fun i hi => ?_, fun b e => ?_⟩
  · obtain ⟨b, e, hl, hc⟩ := hs (i + 1) (by simp; omega)
    obtain rfl := Option.some.inj e
    refine ⟨_, rfl, by rw [block_add]; exact hl, ?_⟩
    obtain ⟨a0, ea0, -, hc0⟩ := hs 0 (by simp)
    obtain rfl := Option.some.inj ea0
    have hsp := spot_of_cell' hc0
    obtain ⟨b0, o0, s0⟩ := a
    have hsp0 : s0 = none := by
      rw [Addr.add] at hsp
      cases s0 with
      | none => rfl
      | some y => simp at hsp
    subst hsp0
    rw [Addr.add_lit] at hc
    rw [Addr.add_lit, Addr.add_lit, show o0 + 1 + i = o0 + (i + 1) by omega]
    exact hc
  · obtain rfl := Option.some.inj e
    rw [block_add]
    exact ha _ rfl
/-- a line's value when it holds anything -/
theorem LineV.some {w : World} {v : Value} {x : List UInt8} {ls : List (List UInt8)} {S : List Nat} (h : LineV w v (x :: ls) S) : ∃ a c, v = .slice (some a) (ls.length + 1) c ∧ ls.length + 1 ≤ c ∧ c ≤ maxLen := by
  obtain ⟨A, c, hv, h1, h2, hs, ha⟩ := h.shape
  obtain ⟨a, e, -, -⟩ := hs 0 (by simp)
  subst e
  exact ⟨a, c, hv, h1, h2⟩
theorem kept_nil {w : World} {B : Nat} {S : List Nat} (hB : B ≤ w.heap.size) (hS : ∀ x ∈ S, x < w.heap.size) : KeptV (w.alloc (.cells #[] 9)) B (.slice (some ⟨w.heap.size, 0, none⟩) 0 0) [] S :=
  ⟨.inr ⟨_, _, rfl, hB, ⟨Nat.le_refl _, by decide, by simp, rfl, fun j u hu => by simp [rowT] at hu, fun j hj => by omega⟩⟩, fun g m c e hx => by
    injection e with e1
    injection e1 with e1
    injection e1 with e1
    have := hS g hx
    omega⟩
theorem u64_modk (x : Int) (m : Nat) (hm : 0 < m) (hm2 : m ≤ 1000) (h : -9223372036854775808 ≤ x ∧ x ≤ 9223372036854775807) : ∃ u k : Nat, IntKind.u64.wrap x = (u : Int) ∧ (u : Int) ≤ 18446744073709551615 ∧ (u : Int).tmod (m : Int) = (k : Int) ∧ IntKind.i64.wrap (k : Int) = (k : Int) ∧ k < m := by
  by_cases hx : 0 ≤ x
  · obtain ⟨u, rfl⟩ : ∃ u : Nat, x = u := ⟨x.toNat, by omega⟩
    have hk : u % m < m := Nat.mod_lt _ hm
    exact ⟨u, u % m, by rw [IntWalk.u64_in _ (by omega)], by omega, rfl, IntWalk.i64_in _ (by omega), hk⟩
  · have hk : (x + 18446744073709551616).toNat % m < m := Nat.mod_lt _ hm
    refine ⟨(x + 18446744073709551616).toNat, (x + 18446744073709551616).toNat % m, ?_, by omega, rfl, IntWalk.i64_in _ (by omega), hk⟩
    simp only [IntKind.wrap_u64]; omega
theorem KeptV.strs {w : World} {B : Nat} {A : Option Addr} {n c : Nat} {ls : List (List UInt8)} {S : List Nat} (h : KeptV w B (.slice A n c) ls S) : n = ls.length ∧ Strs w w.heap.size A ls := by
  obtain ⟨A', c', hv, hs⟩ := h.shape
  injection hv with e1 e2 e3
  subst e1
  exact ⟨e2, hs⟩
theorem LineV.strs {w : World} {A : Option Addr} {n c : Nat} {ls : List (List UInt8)} {S : List Nat} (h : LineV w (.slice A n c) ls S) : n = ls.length ∧ Strs w w.heap.size A ls := by
  obtain ⟨A', c', hv, -, -, hs, -⟩ := h.shape
  injection hv with e1 e2 e3
  subst e1
  exact ⟨e2, hs⟩
/-- a text more on a list of the call's own -/
theorem wpList_append_kept (w : World) {ops : Array Oper} {rest : List Oper} {o : Oper} {a : Act} {Q : Exit → Act → World → Prop} (hgd : o.guard = none) (s x : Operand)
    (ho : o.op = .call { callee := .builtin .append, args := #[s, x], argTypes := #[49, 49] })
    {B : Nat} {v : Value} {ls : List (List UInt8)} {S : List Nat} (hBw : B ≤ w.heap.size) (hv : a.eval s = v) (h : KeptV w B v ls S) (hS : ∀ z ∈ S, z < w.heap.size) (hl : ls.length ≤ 1000)
    (xv : Value) (t : List UInt8) (hx : a.eval x = xv) (hs : Src Tryd.prog 1 49 xv 1 [.string ⟨t.toArray⟩] w)
    (hK : ∀ v' w' T, KeptV w' B v' (ls ++ [t]) S → Only T w w' → (∀ z ∈ T, B ≤ z ∧ z ∉ S) → wpList Tryd.prog ops Q rest (a.put o.dst v') w') : wpList Tryd.prog ops Q (o :: rest) a w := by
  obtain ⟨i0, hi0, hz0, hz1, hz2⟩ := info_parts str_info
  have hln : (ls ++ [t]).length = ls.length + 1 := by simp
  have hrt : rowT (ls ++ [t]) = rowT ls ++ [.string ⟨t.toArray⟩] := by rw [rowT_append]; rfl
  refine wpList_plain hgd fun K hK' => ?_
  rcases h.bag with ⟨h1, h2, h3⟩ | ⟨g, cap, h1, hg, hB⟩
  · have hls : ls = [] := List.eq_nil_of_length_eq_zero h2
    subst hls
    obtain ⟨v', w', hrun, hb, hbl⟩ := run_append_bag0 (P := Tryd.prog) (B := w.heap.size) 49 49 o.type 9 i0 _ 16 Tryd.underlying49 hi0 hz0 hz1 hz2 rfl (Nat.le_refl _) (.inl ⟨h1, rfl, rfl⟩ : Bag0 w w.heap.size 1 v 0 []) xv 1 _ hs (by decide) (by unfold maxLen; omega) (by omega)
    unfold Oper.wp
    simp [execOp, ho, resolve, invoke, builtin, hv, hx, hrun, Result.andThen]
    refine hK' _ _ (hK v' w' [] ⟨?_, fun g n c e hx' => ?_⟩ (Only.of_below hbl) (fun z hz => by cases hz))
    · have hb2 : Bag0 w' B 1 v' (0 + 1) ([] ++ [Value.string ⟨t.toArray⟩]) := by
        rcases hb with h | ⟨g, c, e1, e2, e3⟩
        · exact .inl h
        · exact .inr ⟨g, c, e1, Nat.le_trans hBw e2, e3⟩
      unfold Txts
      rw [hln, hrt]
      exact hb2
    · rcases hb with ⟨e1, -, -⟩ | ⟨g', c', e1, e2, -⟩
      · rw [e1] at e; cases e
      · rw [e1] at e
        injection e with e
        injection e with e
        injection e with e
        have := hS g hx'
        omega
  · subst h1
    obtain ⟨g', cap', w', hrun, hb, hO, hor⟩ := run_append_bag (P := Tryd.prog) 49 49 o.type 9 i0 _ 16 Tryd.underlying49 hi0 hz0 hz1 hz2 rfl hB xv 1 _ hs (by unfold maxLen; omega) (by omega)
    have hgS : g ∉ S := h.apart g _ cap rfl
    unfold Oper.wp
    simp [execOp, ho, resolve, invoke, builtin, hv, hx, hrun, Result.andThen]
    refine hK' _ _ (hK _ w' [g] ⟨.inr ⟨g', cap', ?_, ?_, ?_⟩, fun g2 n c e hx' => ?_⟩ hO (fun z hz => by simp only [List.mem_singleton] at hz; subst hz; exact ⟨hg, hgS⟩))
    · rw [hln]
    · rcases hor with e | e
      · rw [e]; exact hg
      · omega
    · rw [hln, hrt]; exact hb
    · injection e with e
      injection e with e
      injection e with e
      subst e
      rcases hor with e | e
      · exact hgS (e ▸ hx')
      · have := hS _ hx'; omega
end Go.Proofs.YteihfoacdocgkaaDoor
