/-
  Layer 19 (wing): arguments that are frames.
-/
import Derived.Test.YthcmlbbbbcinkaaDoorWkD
import Derived.Test.YthcmlbbbbcinkaaDoorManiArg
import Derived.Deep.Fields
import Derived.ChangeSame
set_option linter.unusedVariables false
set_option linter.unusedSimpArgs false
namespace Go.Proofs.YthcmlbbbbcinkaaDoor
open Go.RowKit Go.ChangeShapes Go.WideShapes Go.Deep Pl
namespace Wi

section
variable {H : Type} {enc : TypeId × Value → H} {w : World} {base : Nat} {held : Bool}

set_option maxRecDepth 100000 in
theorem open_bytesN {t : TypeId} {n : Nat} (ht : Tryd.prog.underlying t = some (.array n 5)) (hc : Tryd.prog.cellsOf t = n) {fuel : Nat} {cs : List Value} {x : DataW H × List MemPlace} (h : DataW.trod enc Tryd.prog w base (fun _ => true) held fuel t cs = some x) :
    ∃ d : List UInt8, d.length = n ∧ cs = byV d := by
  obtain ⟨xs, m, rfl, hx, hlen, hn, hel⟩ := DataW.trod_array ht h
  have c1 : Tryd.prog.cellsOf 5 = 1 := by kernel_rfl
  rw [hc] at hlen
  rw [c1] at hel
  have key : ∀ i (hi : i < cs.length), ∃ b : UInt8, cs[i] = .int .u8 ((b.toNat : Nat) : Int) := by
    intro i hi
    have hxi : i < xs.length := by omega
    have h1 := hel i (by omega)
    rw [List.getElem?_eq_getElem hxi, Nat.mul_one] at h1
    obtain ⟨k, e1, _, wf⟩ := DataW.trod_int Tryd.underlying5 h1
    have h2 := congrArg (fun l => l[0]?) e1
    simp only [List.getElem?_take, List.getElem?_drop] at h2
    have h3 : cs[i]? = some (.int .u8 k) := by simpa using h2
    rw [List.getElem?_eq_getElem hi] at h3
    have hb := wf_u8_ wf
    refine ⟨UInt8.ofNat k.toNat, ?_⟩
    rw [Option.some.inj h3]
    congr 1
    rw [UInt8.toNat_ofNat']
    omega
  refine ⟨(List.range cs.length).map fun i => Classical.epsilon fun b : UInt8 => cs[i]? = some (.int .u8 ((b.toNat : Nat) : Int)), by simp [hlen], ?_⟩
  apply List.ext_getElem
  · simp [byV]
  · intro i h1 h2
    obtain ⟨b, hb⟩ := key i h1
    have hs := Classical.epsilon_spec (p := fun b : UInt8 => cs[i]? = some (.int .u8 ((b.toNat : Nat) : Int))) ⟨b, by rw [List.getElem?_eq_getElem h1, hb]⟩
    have hs2 := (List.getElem?_eq_getElem h1).symm.trans hs
    simp only [byV, List.getElem_map, List.getElem_range]
    exact Option.some.inj hs2

theorem open_sliceC {t e : TypeId} {fuel : Nat} {v : Value} {x : DataW H × List MemPlace} (ht : Tryd.prog.underlying t = some (.slice e)) (h : DataW.trod enc Tryd.prog w base (fun _ => true) held fuel t [v] = some x) : ∃ A n c, v = .slice A n c := by
  rcases open_slice ht h with ⟨hcs, _⟩ | ⟨a, len, cap, m, n, D, Pl, hcs, _⟩
  · simp only [List.cons.injEq, and_true] at hcs
    exact ⟨_, _, _, hcs⟩
  · simp only [List.cons.injEq, and_true] at hcs
    exact ⟨_, _, _, hcs⟩

/-- the cells of a record -/
theorem open_recordC {fuel : Nat} {cs : List Value} {x : DataW H × List MemPlace} (hf : DataW.trod enc Tryd.prog w base (fun _ => true) held fuel 26 cs = some x) :
    ∃ (k : List UInt8) (c : Int) (o : List UInt8), k.length = 32 ∧ o.length = 32 ∧ -9223372036854775808 ≤ c ∧ c ≤ 9223372036854775807 ∧ cs = byV k ++ ([Value.int .i64 c] ++ byV o) := by
  obtain ⟨y0, y1, y2, n, hx, hlen, h0, h1, h2⟩ := trod_struct3 Tryd.underlying26 hf
  have c65 : Tryd.prog.cellsOf 26 = 65 := by kernel_rfl
  have c32 : Tryd.prog.cellsOf 23 = 32 := by kernel_rfl
  have c1 : Tryd.prog.cellsOf 24 = 1 := by kernel_rfl
  rw [c65] at hlen
  simp only [c32, c1] at h0 h1 h2
  obtain ⟨k, hk, e0⟩ := open_dig h0
  obtain ⟨s, e1, _, wf⟩ := DataW.trod_int Tryd.underlying24 h1
  obtain ⟨o, ho, e2⟩ := open_dig h2
  have hb := wf_bounds_ wf
  refine ⟨k, s, o, hk, ho, hb.1, hb.2, ?_⟩
  have e3 : cs = (cs.drop 0).take 32 ++ ((cs.drop 32).take 1 ++ (cs.drop 33).take 32) := by
    have a1 : (cs.drop 33).take 32 = cs.drop 33 := List.take_of_length_le (by simp [hlen])
    have a2 : (cs.drop 32).take 1 ++ cs.drop 33 = cs.drop 32 := by
      have := List.take_append_drop 1 (cs.drop 32)
      rw [List.drop_drop] at this
      exact this
    rw [a1, a2, List.drop_zero, List.take_append_drop]
  rw [e3, e0, e1, e2]

theorem take_seg {cs : List Value} {a b : Nat} : (cs.drop a).take b ++ cs.drop (a + b) = cs.drop a := by
  have := List.take_append_drop b (cs.drop a)
  rw [List.drop_drop] at this
  exact this

theorem trod_seg {t : TypeId} {fs : Array Field} {fuel : Nat} {cs : List Value} {x : DataW H × List MemPlace} (ht : Tryd.prog.underlying t = some (.struct fs)) (h : DataW.trod enc Tryd.prog w base (fun _ => true) held fuel t cs = some x) :
    ∃ n, cs.length = Tryd.prog.cellsOf t ∧ ∀ (j : Nat) (t' : TypeId) (off sz : Nat), (fs[j]?.map fun f => (f.type, f.offset)) = some (t', off) → Tryd.prog.cellsOf t' = sz → ∃ y, DataW.trod enc Tryd.prog w base (fun _ => true) held n t' ((cs.drop off).take sz) = some y := by
  obtain ⟨ys, n, _, hx, hlen, hyl, hfl⟩ := DataW.trod_struct ht h
  refine ⟨n, hlen, fun j t' off sz hj hs => ?_⟩
  obtain ⟨f, hf, he⟩ := Option.map_eq_some_iff.1 hj
  simp only [Prod.mk.injEq] at he
  have hl : j < ys.length := by rw [hyl]; exact (Array.getElem?_eq_some_iff.1 hf).1
  have h1 := hfl j f hf
  rw [List.getElem?_eq_getElem hl, he.1, he.2, hs] at h1
  exact ⟨_, h1⟩
theorem one_of_take {cs : List Value} {a : Nat} {v : Value} (h : (cs.drop a).take 1 = [v]) : cs.drop a = v :: cs.drop (a + 1) := by
  have := @take_seg cs a 1
  rw [h] at this
  exact this.symm

theorem spot_of_cellW {w : World} {a : Addr} {v : Value} (h : w.cell? a = some v) : a.spot = none := by
  unfold World.cell? at h
  split at h
  · by_cases hs : a.spot.isSome = true
    · rw [if_pos hs] at h; cases h
    · cases hsp : a.spot with
      | none => rfl
      | some x => rw [hsp] at hs; simp at hs
  · cases h
/-- a slice of things of whose cells one knows what they are -/
theorem open_rowsG {α : Type} {T ST : TypeId} {n : Nat} {c : α → List Value} {W : α → Prop} (hu : Tryd.prog.underlying ST = some (.slice T)) (hc : Tryd.prog.cellsOf T = n) (hn : 0 < n)
    (one : ∀ (fuel : Nat) (cs : List Value) (x : DataW H × List MemPlace), DataW.trod enc Tryd.prog w base (fun _ => true) held fuel T cs = some x → ∃ a, cs = c a ∧ W a) (hcl : ∀ a, W a → (c a).length = n)
    {fuel : Nat} {v : Value} {x : DataW H × List MemPlace} (h : DataW.trod enc Tryd.prog w base (fun _ => true) held fuel ST [v] = some x) :
    ∃ (A : Option Addr) (cap : Nat) (L : List α), v = .slice A L.length cap ∧ RowsAt n c w w.heap.size A L ∧ L.length ≤ maxLen ∧ ∀ a ∈ L, W a := by
  rcases open_slice hu h with ⟨hcs, _⟩ | ⟨a, len, cap, m, n', D, Pl, hcs, _, hl, hm, hmm, _, hi⟩
  · simp only [List.cons.injEq, and_true] at hcs
    subst hcs
    exact ⟨none, 0, [], rfl, fun i hi => absurd hi (by simp), by simp, by simp⟩
  · simp only [List.cons.injEq, and_true] at hcs
    subst hcs
    simp only [if_true] at hmm
    have key : ∀ i, i < len → ∃ d : α, W d ∧ ∀ k, k < n → w.cell? ((a.add (i * n)).add k) = (c d)[k]? := by
      intro i hil
      obtain ⟨cs', hc', ht⟩ := hi i (by omega)
      rw [hc] at hc'
      obtain ⟨d, rfl, hd⟩ := one _ _ _ ht
      obtain ⟨_, _, hat⟩ := World.cells?_some hc'
      exact ⟨d, hd, fun k hk => hat k hk⟩
    have hspot : ∀ d, W d → (∀ k, k < n → w.cell? (a.add k) = (c d)[k]?) → a.spot = none := fun d hd hk => by
      have h0 := hk 0 hn
      have hlt : 0 < (c d).length := by rw [hcl d hd]; exact hn
      rw [List.getElem?_eq_getElem hlt] at h0
      have e : a.add 0 = a := by simp [Addr.add]
      rw [e] at h0
      exact spot_of_cellW h0
    obtain ⟨f, hf⟩ := Classical.axiomOfChoice (r := fun (i : Fin len) (d : α) => W d ∧ ∀ k, k < n → w.cell? ((a.add (i.1 * n)).add k) = (c d)[k]?) (fun i => key i.1 i.2)
    refine ⟨some a, cap, List.ofFn f, by rw [List.length_ofFn], fun i hil => ?_, by rw [List.length_ofFn]; omega, fun d hd => ?_⟩
    · rw [List.length_ofFn] at hil
      rw [List.getElem_ofFn]
      obtain ⟨hw, hk⟩ := hf ⟨i, hil⟩
      obtain ⟨hw0, hk0⟩ := hf ⟨0, by omega⟩
      have hsp := hspot _ hw0 (fun k hkn => by have := hk0 k hkn; simpa [Addr.add] using this)
      obtain ⟨b, o, sp⟩ := a
      simp only at hsp
      subst hsp
      have hlt : 0 < (c (f ⟨i, hil⟩)).length := by rw [hcl _ hw]; exact hn
      have h0 := hk 0 hn
      rw [List.getElem?_eq_getElem hlt] at h0
      refine ⟨b, o, rfl, ?_, fun k v hv => ?_⟩
      · have := block_lt_of_cell h0
        rw [block_add, block_add] at this
        exact this
      · have hkl : k < (c (f ⟨i, hil⟩)).length := (List.getElem?_eq_some_iff.1 hv).1
        have := hk k (by rw [hcl _ hw] at hkl; exact hkl)
        rw [Addr.add_lit, Addr.add_lit] at this
        rw [this]; exact hv
    · rw [List.mem_ofFn] at hd
      obtain ⟨i, rfl⟩ := hd
      exact (hf i).1
theorem open_memberC {fuel : Nat} {cs : List Value} {x : DataW H × List MemPlace} (hf : DataW.trod enc Tryd.prog w base (fun _ => true) held fuel 52 cs = some x) : ∃ m : Mb, cs = m.cells ∧ m.Wf := by
  obtain ⟨n, hlen, G⟩ := trod_seg Tryd.underlying52 hf
  have c3 : Tryd.prog.cellsOf 52 = 3 := by kernel_rfl
  rw [c3] at hlen
  obtain ⟨_, g0⟩ := G 0 3 0 1 rfl (by kernel_rfl)
  obtain ⟨_, g1⟩ := G 1 3 1 1 rfl (by kernel_rfl)
  obtain ⟨_, g2⟩ := G 2 3 2 1 rfl (by kernel_rfl)
  obtain ⟨a, e0, -, w0⟩ := DataW.trod_int Tryd.underlying3 g0
  obtain ⟨b, e1, -, w1⟩ := DataW.trod_int Tryd.underlying3 g1
  obtain ⟨c, e2, -, w2⟩ := DataW.trod_int Tryd.underlying3 g2
  refine ⟨⟨a, b, c⟩, ?_, ⟨wf_bounds_ w0, wf_bounds_ w1, wf_bounds_ w2⟩⟩
  have q2 : cs.drop 2 = [.int .i64 c] := by rw [← e2, List.take_of_length_le (by simp [hlen])]
  have q1 := one_of_take e1
  have q0 := one_of_take e0
  rw [← List.drop_zero (l := cs), q0, q1, q2]
  rfl
theorem open_rangeC {fuel : Nat} {cs : List Value} {x : DataW H × List MemPlace} (hf : DataW.trod enc Tryd.prog w base (fun _ => true) held fuel 65 cs = some x) : ∃ r : Rg, cs = r.cells ∧ r.Wf := by
  obtain ⟨n, hlen, G⟩ := trod_seg Tryd.underlying65 hf
  have c35 : Tryd.prog.cellsOf 65 = 35 := by kernel_rfl
  rw [c35] at hlen
  obtain ⟨_, g0⟩ := G 0 3 0 1 rfl (by kernel_rfl)
  obtain ⟨_, g1⟩ := G 1 3 1 1 rfl (by kernel_rfl)
  obtain ⟨_, g2⟩ := G 2 3 2 1 rfl (by kernel_rfl)
  obtain ⟨_, g3⟩ := G 3 23 3 32 rfl (by kernel_rfl)
  obtain ⟨a, e0, -, w0⟩ := DataW.trod_int Tryd.underlying3 g0
  obtain ⟨b, e1, -, w1⟩ := DataW.trod_int Tryd.underlying3 g1
  obtain ⟨c, e2, -, w2⟩ := DataW.trod_int Tryd.underlying3 g2
  obtain ⟨d, hd, e3⟩ := open_dig g3
  refine ⟨⟨a, b, c, d⟩, ?_, ⟨wf_bounds_ w0, wf_bounds_ w1, wf_bounds_ w2, hd⟩⟩
  have q3 : cs.drop 3 = byV d := by rw [← e3, List.take_of_length_le (by simp [hlen])]
  have q2 := one_of_take e2
  have q1 := one_of_take e1
  have q0 := one_of_take e0
  rw [← List.drop_zero (l := cs), q0, q1, q2, q3]
  rfl
theorem open_recC {fuel : Nat} {cs : List Value} {x : DataW H × List MemPlace} (hf : DataW.trod enc Tryd.prog w base (fun _ => true) held fuel 26 cs = some x) : ∃ r : Rc, cs = r.cells ∧ r.Wf := by
  obtain ⟨k, c, o, hk, ho, h1, h2, e⟩ := open_recordC hf
  exact ⟨⟨k, c, o⟩, by rw [e]; rfl, ⟨hk, ho, ⟨h1, h2⟩⟩⟩
set_option maxHeartbeats 4000000 in
set_option maxRecDepth 100000 in
/-- the cells of a frame -/
theorem open_fmC {fuel : Nat} {cs : List Value} {x : DataW H × List MemPlace} (hf : DataW.trod enc Tryd.prog w base (fun _ => true) held fuel 36 cs = some x) :
    ∃ (f : Fm) (y : Adr), cs = f.cells y ∧ FmOk w w.heap.size f y := by
  obtain ⟨n, hlen, G⟩ := trod_seg Tryd.underlying36 hf
  have c237 : Tryd.prog.cellsOf 36 = 237 := by kernel_rfl
  rw [c237] at hlen
  obtain ⟨_, g0⟩ := G 0 3 0 1 rfl (by kernel_rfl)
  obtain ⟨_, g1⟩ := G 1 3 1 1 rfl (by kernel_rfl)
  obtain ⟨_, g2⟩ := G 2 3 2 1 rfl (by kernel_rfl)
  obtain ⟨_, g3⟩ := G 3 3 3 1 rfl (by kernel_rfl)
  obtain ⟨_, g4⟩ := G 4 23 4 32 rfl (by kernel_rfl)
  obtain ⟨_, g5⟩ := G 5 4 36 1 rfl (by kernel_rfl)
  obtain ⟨_, g6⟩ := G 6 26 37 65 rfl (by kernel_rfl)
  obtain ⟨_, g7⟩ := G 7 23 102 32 rfl (by kernel_rfl)
  obtain ⟨_, g8⟩ := G 8 3 134 1 rfl (by kernel_rfl)
  obtain ⟨_, g9⟩ := G 9 9 135 1 rfl (by kernel_rfl)
  obtain ⟨_, g10⟩ := G 10 28 136 64 rfl (by kernel_rfl)
  obtain ⟨_, g11⟩ := G 11 31 200 34 rfl (by kernel_rfl)
  obtain ⟨_, g12⟩ := G 12 32 234 1 rfl (by kernel_rfl)
  obtain ⟨_, g13⟩ := G 13 33 235 1 rfl (by kernel_rfl)
  obtain ⟨_, g14⟩ := G 14 34 236 1 rfl (by kernel_rfl)
  obtain ⟨k, e0, -, w0⟩ := DataW.trod_int Tryd.underlying3 g0
  obtain ⟨fr, e1, -, w1⟩ := DataW.trod_int Tryd.underlying3 g1
  obtain ⟨sq, e2, -, w2⟩ := DataW.trod_int Tryd.underlying3 g2
  obtain ⟨nd, e3, -, w3⟩ := DataW.trod_int Tryd.underlying3 g3
  obtain ⟨ky, hky, e4⟩ := open_dig g4
  obtain ⟨fo, e5, -⟩ := DataW.trod_bool Tryd.underlying4 g5
  obtain ⟨rk, rc, ro, hrk, hro, w6a, w6b, e6⟩ := open_recordC g6
  obtain ⟨ou, hou, e7⟩ := open_dig g7
  obtain ⟨at', e8, -, w8⟩ := DataW.trod_int Tryd.underlying3 g8
  obtain ⟨da, e9, -, w9⟩ := DataW.trod_string Tryd.underlying9 g9
  obtain ⟨hz, hhz, e10⟩ := open_bytesN Tryd.underlying28 (by kernel_rfl) g10
  obtain ⟨m, e11, hm⟩ := open_maniC g11
  have one : ∀ a, a < 237 → ∃ v, (cs.drop a).take 1 = [v] := fun a ha => by
    refine ⟨cs[a]'(by omega), ?_⟩
    rw [List.drop_eq_getElem_cons (by omega)]; rfl
  obtain ⟨v12, e12⟩ := one 234 (by omega)
  obtain ⟨v13, e13⟩ := one 235 (by omega)
  obtain ⟨v14, e14⟩ := one 236 (by omega)
  rw [e12] at g12
  rw [e13] at g13
  rw [e14] at g14
  obtain ⟨A12, c12, l12, rfl, hr12, hl12, hw12⟩ := open_rowsG (c := Rg.cells) (W := Rg.Wf) Tryd.underlying32 (by kernel_rfl) (by decide) (fun _ _ _ h => open_rangeC h) (fun _ h => Rg.len h) g12
  obtain ⟨A13, c13, l13, rfl, hr13, hl13, hw13⟩ := open_rowsG (c := Rc.cells) (W := Rc.Wf) Tryd.underlying33 (by kernel_rfl) (by decide) (fun _ _ _ h => open_recC h) (fun _ h => Rc.len h) g13
  obtain ⟨A14, c14, l14, rfl, hr14, hl14, hw14⟩ := open_rowsG (c := Mb.cells) (W := Mb.Wf) Tryd.underlying34 (by kernel_rfl) (by decide) (fun _ _ _ h => open_memberC h) (fun _ _ => Mb.len _) g14
  have q14 : cs.drop 236 = [.slice A14 l14.length c14] := by rw [← e14, List.take_of_length_le (by simp [hlen])]
  have q13 : cs.drop 235 = [.slice A13 l13.length c13, .slice A14 l14.length c14] := by rw [one_of_take e13, q14]
  have q12 : cs.drop 234 = [.slice A12 l12.length c12, .slice A13 l13.length c13, .slice A14 l14.length c14] := by rw [one_of_take e12, q13]
  have q11 : cs.drop 200 = m.cells ++ [.slice A12 l12.length c12, .slice A13 l13.length c13, .slice A14 l14.length c14] := by rw [← @take_seg cs 200 34, e11, q12]
  have q10 := @take_seg cs 136 64
  rw [e10, q11] at q10
  have q9 := one_of_take e9
  have q8 := one_of_take e8
  have q7 := @take_seg cs 102 32
  rw [e7] at q7
  have q6 := @take_seg cs 37 65
  rw [e6] at q6
  have q5 := one_of_take e5
  have q4 := @take_seg cs 4 32
  rw [e4] at q4
  have q3 := one_of_take e3
  have q2 := one_of_take e2
  have q1 := one_of_take e1
  have q0 := one_of_take e0
  have eda : (Value.string ⟨da.data.toList.toArray⟩) = .string da := by cases da; rfl
  refine ⟨⟨k, fr, sq, nd, ky, fo, ⟨rk, rc, ro⟩, ou, at', da.data.toList, hz, m.whole, m.size, m.parts, l12, l13, l14⟩, ⟨m.A, m.cap, A12, c12, A13, c13, A14, c14⟩, ?_,
    ⟨⟨wf_bounds_ w0, wf_bounds_ w1, wf_bounds_ w2, wf_bounds_ w3, hky, ⟨hrk, hro, ⟨w6a, w6b⟩⟩, hou, wf_bounds_ w8, by simpa using w9, hhz, hm.whole, ⟨hm.lo, hm.hi⟩, hm.each, hm.len, hw12, hl12, hw13, hl13, hw14, hl14⟩, hm.digs, hr12, hr13, hr14⟩⟩
  unfold Fm.cells Rc.cells Fm.mani
  simp only [eda]
  rw [← List.drop_zero (l := cs), q0, q1, q2, q3, ← q4, q5, ← q6, ← q7, q8, q9, ← q10]
  simp only [List.append_assoc, List.cons_append, List.nil_append, List.singleton_append]
set_option maxRecDepth 100000 in
/-- an argument of type api.Frame -/
theorem open_fm {v : Value} {d : DataW H} {ps : List MemPlace} {r : Reach} {b0 : Nat} (hv : Value.okWide Tryd.prog w r b0 36 v) (h : DataW.Trod enc Tryd.prog w base (fun _ => true) held 36 v d ps) :
    ∃ (f : Fm) (y : Adr), v = .agg (f.cells y).toArray ∧ FmOk w w.heap.size f y := by
  obtain ⟨cs, rfl, hsz⟩ := okWide_struct Tryd.underlying36 hv
  obtain ⟨fuel, hf⟩ := h
  obtain ⟨f, y, e, hm⟩ := open_fmC hf
  refine ⟨f, y, ?_, hm⟩
  have e2 : cs = (f.cells y).toArray := by
    apply Array.ext'
    exact e
  rw [e2]
end
end Wi
end Go.Proofs.YthcmlbbbbcinkaaDoor
