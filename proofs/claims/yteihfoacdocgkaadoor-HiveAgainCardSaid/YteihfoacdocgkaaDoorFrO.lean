/-
  Arguments that hold frames.
-/
import Derived.Test.YteihfoacdocgkaaDoorFrP
import Derived.Test.YteihfoacdocgkaaDoorManiArg
import Derived.Deep.Fields
import Derived.ChangeSame
set_option linter.unusedVariables false
set_option linter.unusedSimpArgs false
namespace Go.Proofs.YteihfoacdocgkaaDoor
open Go.RowKit Go.ChangeShapes Go.WideShapes Go.Deep

section
variable {H : Type} {enc : TypeId × Value → H} {w : World} {base : Nat} {held : Bool}

set_option maxRecDepth 100000 in
theorem open_bytesN {t : TypeId} {n : Nat} (ht : Tryd.prog.underlying t = some (.array n 5)) (hc : Tryd.prog.cellsOf t = n) {fuel : Nat} {cs : List Value} {x : DataW H × List MemPlace} (h : DataW.trod enc Tryd.prog w base (fun _ => true) held fuel t cs = some x) :
    ∃ d : List UInt8, d.length = n ∧ cs = byV d := by
  obtain ⟨xs, m, rfl, hx, hlen, hn, hel⟩ := DataW.trod_array ht h
  have c1 : Tryd.prog.cellsOf 5 = 1 := by kernel_rfl
  rw [hc] at hlen
  rw [c1] at hel
  have key : ∀ i (hi : i < cs.length), ∃ b : UInt8, cs[i] = .int .u8 ((b.toNat : Nat) : Int) := by
    intro i hi
    have hxi : i < xs.length := by omega
    have h1 := hel i (by omega)
    rw [List.getElem?_eq_getElem hxi, Nat.mul_one] at h1
    obtain ⟨k, e1, _, wf⟩ := DataW.trod_int Tryd.underlying5 h1
    have h2 := congrArg (fun l => l[0]?) e1
    simp only [List.getElem?_take, List.getElem?_drop] at h2
    have h3 : cs[i]? = some (.int .u8 k) := by simpa using h2
    rw [List.getElem?_eq_getElem hi] at h3
    have hb := wf_u8_ wf
    refine ⟨UInt8.ofNat k.toNat, ?_⟩
    rw [Option.some.inj h3]
    congr 1
    rw [UInt8.toNat_ofNat']
    omega
  refine ⟨(List.range cs.length).map fun i => Classical.epsilon fun b : UInt8 => cs[i]? = some (.int .u8 ((b.toNat : Nat) : Int)), by simp [hlen], ?_⟩
  apply List.ext_getElem
  · simp [byV]
  · intro i h1 h2
    obtain ⟨b, hb⟩ := key i h1
    have hs := Classical.epsilon_spec (p := fun b : UInt8 => cs[i]? = some (.int .u8 ((b.toNat : Nat) : Int))) ⟨b, by rw [List.getElem?_eq_getElem h1, hb]⟩
    have hs2 := (List.getElem?_eq_getElem h1).symm.trans hs
    simp only [byV, List.getElem_map, List.getElem_range]
    exact Option.some.inj hs2

theorem open_sliceC {t e : TypeId} {fuel : Nat} {v : Value} {x : DataW H × List MemPlace} (ht : Tryd.prog.underlying t = some (.slice e)) (h : DataW.trod enc Tryd.prog w base (fun _ => true) held fuel t [v] = some x) : ∃ A n c, v = .slice A n c := by
  rcases open_slice ht h with ⟨hcs, _⟩ | ⟨a, len, cap, m, n, D, Pl, hcs, _⟩
  · simp only [List.cons.injEq, and_true] at hcs
    exact ⟨_, _, _, hcs⟩
  · simp only [List.cons.injEq, and_true] at hcs
    exact ⟨_, _, _, hcs⟩

/-- the cells of a record -/
theorem open_recordC {fuel : Nat} {cs : List Value} {x : DataW H × List MemPlace} (hf : DataW.trod enc Tryd.prog w base (fun _ => true) held fuel 26 cs = some x) :
    ∃ (k : List UInt8) (c : Int) (o : List UInt8), k.length = 32 ∧ o.length = 32 ∧ -9223372036854775808 ≤ c ∧ c ≤ 9223372036854775807 ∧ cs = byV k ++ ([Value.int .i64 c] ++ byV o) := by
  obtain ⟨y0, y1, y2, n, hx, hlen, h0, h1, h2⟩ := trod_struct3 Tryd.underlying26 hf
  have c65 : Tryd.prog.cellsOf 26 = 65 := by kernel_rfl
  have c32 : Tryd.prog.cellsOf 23 = 32 := by kernel_rfl
  have c1 : Tryd.prog.cellsOf 24 = 1 := by kernel_rfl
  rw [c65] at hlen
  simp only [c32, c1] at h0 h1 h2
  obtain ⟨k, hk, e0⟩ := open_dig h0
  obtain ⟨s, e1, _, wf⟩ := DataW.trod_int Tryd.underlying24 h1
  obtain ⟨o, ho, e2⟩ := open_dig h2
  have hb := wf_bounds_ wf
  refine ⟨k, s, o, hk, ho, hb.1, hb.2, ?_⟩
  have e3 : cs = (cs.drop 0).take 32 ++ ((cs.drop 32).take 1 ++ (cs.drop 33).take 32) := by
    have a1 : (cs.drop 33).take 32 = cs.drop 33 := List.take_of_length_le (by simp [hlen])
    have a2 : (cs.drop 32).take 1 ++ cs.drop 33 = cs.drop 32 := by
      have := List.take_append_drop 1 (cs.drop 32)
      rw [List.drop_drop] at this
      exact this
    rw [a1, a2, List.drop_zero, List.take_append_drop]
  rw [e3, e0, e1, e2]

def mkx1 (seq node : Int) (key : List UInt8) (found : Bool) (rk : List UInt8) (rc : Int) (ro : List UInt8) : List Value :=
  [Value.int .i64 seq, Value.int .i64 node] ++ (byV key ++ ([Value.bool found] ++ (byV rk ++ ([Value.int .i64 rc] ++ byV ro))))
theorem mkx1_fit {seq node : Int} {key : List UInt8} {found : Bool} {rk : List UInt8} {rc : Int} {ro : List UInt8} (h1 : key.length = 32) (h2 : rk.length = 32) (h3 : ro.length = 32) : (mkx1 seq node key found rk rc ro).length = 100 ∧ (mkx1 seq node key found rk rc ro).all (·.oneCell') = true := by
  refine ⟨by simp [mkx1, byV_length, h1, h2, h3], ?_⟩
  simp only [mkx1, List.all_append, byV_one, Bool.true_and, Bool.and_true]
  rfl
theorem take_seg {cs : List Value} {a b : Nat} : (cs.drop a).take b ++ cs.drop (a + b) = cs.drop a := by
  have := List.take_append_drop b (cs.drop a)
  rw [List.drop_drop] at this
  exact this

theorem trod_seg {t : TypeId} {fs : Array Field} {fuel : Nat} {cs : List Value} {x : DataW H × List MemPlace} (ht : Tryd.prog.underlying t = some (.struct fs)) (h : DataW.trod enc Tryd.prog w base (fun _ => true) held fuel t cs = some x) :
    ∃ n, cs.length = Tryd.prog.cellsOf t ∧ ∀ (j : Nat) (t' : TypeId) (off sz : Nat), (fs[j]?.map fun f => (f.type, f.offset)) = some (t', off) → Tryd.prog.cellsOf t' = sz → ∃ y, DataW.trod enc Tryd.prog w base (fun _ => true) held n t' ((cs.drop off).take sz) = some y := by
  obtain ⟨ys, n, _, hx, hlen, hyl, hfl⟩ := DataW.trod_struct ht h
  refine ⟨n, hlen, fun j t' off sz hj hs => ?_⟩
  obtain ⟨f, hf, he⟩ := Option.map_eq_some_iff.1 hj
  simp only [Prod.mk.injEq] at he
  have hl : j < ys.length := by rw [hyl]; exact (Array.getElem?_eq_some_iff.1 hf).1
  have h1 := hfl j f hf
  rw [List.getElem?_eq_getElem hl, he.1, he.2, hs] at h1
  exact ⟨_, h1⟩
theorem one_of_take {cs : List Value} {a : Nat} {v : Value} (h : (cs.drop a).take 1 = [v]) : cs.drop a = v :: cs.drop (a + 1) := by
  have := @take_seg cs a 1
  rw [h] at this
  exact this.symm

set_option maxHeartbeats 2000000 in
set_option maxRecDepth 100000 in
/-- the cells of a frame -/
theorem open_frameC {fuel : Nat} {cs : List Value} {x : DataW H × List MemPlace} (hf : DataW.trod enc Tryd.prog w base (fun _ => true) held fuel 36 cs = some x) :
    ∃ f : FrD, cs = f.cells ∧ f.Fit ∧ f.data.length ≤ maxLen ∧ f.mani.Ok w w.heap.size ∧ (f.data.length ≤ 1000 → f.Ok w) := by
  obtain ⟨n, hlen, G⟩ := trod_seg Tryd.underlying36 hf
  have c237 : Tryd.prog.cellsOf 36 = 237 := by kernel_rfl
  rw [c237] at hlen
  obtain ⟨_, g0⟩ := G 0 3 0 1 rfl (by kernel_rfl)
  obtain ⟨_, g1⟩ := G 1 3 1 1 rfl (by kernel_rfl)
  obtain ⟨_, g2⟩ := G 2 3 2 1 rfl (by kernel_rfl)
  obtain ⟨_, g3⟩ := G 3 3 3 1 rfl (by kernel_rfl)
  obtain ⟨_, g4⟩ := G 4 23 4 32 rfl (by kernel_rfl)
  obtain ⟨_, g5⟩ := G 5 4 36 1 rfl (by kernel_rfl)
  obtain ⟨_, g6⟩ := G 6 26 37 65 rfl (by kernel_rfl)
  obtain ⟨_, g7⟩ := G 7 23 102 32 rfl (by kernel_rfl)
  obtain ⟨_, g8⟩ := G 8 3 134 1 rfl (by kernel_rfl)
  obtain ⟨_, g9⟩ := G 9 9 135 1 rfl (by kernel_rfl)
  obtain ⟨_, g10⟩ := G 10 28 136 64 rfl (by kernel_rfl)
  obtain ⟨_, g11⟩ := G 11 31 200 34 rfl (by kernel_rfl)
  obtain ⟨_, g12⟩ := G 12 32 234 1 rfl (by kernel_rfl)
  obtain ⟨_, g13⟩ := G 13 33 235 1 rfl (by kernel_rfl)
  obtain ⟨_, g14⟩ := G 14 34 236 1 rfl (by kernel_rfl)
  obtain ⟨k, e0, -, w0⟩ := DataW.trod_int Tryd.underlying3 g0
  obtain ⟨fr, e1, -, w1⟩ := DataW.trod_int Tryd.underlying3 g1
  obtain ⟨sq, e2, -, -⟩ := DataW.trod_int Tryd.underlying3 g2
  obtain ⟨nd, e3, -, -⟩ := DataW.trod_int Tryd.underlying3 g3
  obtain ⟨ky, hky, e4⟩ := open_dig g4
  obtain ⟨fo, e5, -⟩ := DataW.trod_bool Tryd.underlying4 g5
  obtain ⟨rk, rc, ro, hrk, hro, -, -, e6⟩ := open_recordC g6
  obtain ⟨ou, hou, e7⟩ := open_dig g7
  obtain ⟨at', e8, -, w8⟩ := DataW.trod_int Tryd.underlying3 g8
  obtain ⟨da, e9, -, w9⟩ := DataW.trod_string Tryd.underlying9 g9
  obtain ⟨hz, hhz, e10⟩ := open_bytesN Tryd.underlying28 (by kernel_rfl) g10
  obtain ⟨m, e11, hm⟩ := open_maniC g11
  have one : ∀ a, a < 237 → ∃ v, (cs.drop a).take 1 = [v] := fun a ha => by
    refine ⟨cs[a]'(by omega), ?_⟩
    rw [List.drop_eq_getElem_cons (by omega)]; rfl
  obtain ⟨v12, e12⟩ := one 234 (by omega)
  obtain ⟨v13, e13⟩ := one 235 (by omega)
  obtain ⟨v14, e14⟩ := one 236 (by omega)
  rw [e12] at g12
  rw [e13] at g13
  rw [e14] at g14
  obtain ⟨A12, n12, c12, rfl⟩ := open_sliceC Tryd.underlying32 g12
  obtain ⟨A13, n13, c13, rfl⟩ := open_sliceC Tryd.underlying33 g13
  obtain ⟨A14, n14, c14, rfl⟩ := open_sliceC Tryd.underlying34 g14
  have q14 : cs.drop 236 = [.slice A14 n14 c14] := by rw [← e14, List.take_of_length_le (by simp [hlen])]
  have q13 : cs.drop 235 = [.slice A13 n13 c13, .slice A14 n14 c14] := by rw [one_of_take e13, q14]
  have q12 : cs.drop 234 = [.slice A12 n12 c12, .slice A13 n13 c13, .slice A14 n14 c14] := by rw [one_of_take e12, q13]
  have q11 : cs.drop 200 = m.cells ++ [.slice A12 n12 c12, .slice A13 n13 c13, .slice A14 n14 c14] := by rw [← @take_seg cs 200 34, e11, q12]
  have q10 := @take_seg cs 136 64
  rw [e10, q11] at q10
  have q9 := one_of_take e9
  have q8 := one_of_take e8
  have q7 := @take_seg cs 102 32
  rw [e7] at q7
  have q6 := @take_seg cs 37 65
  rw [e6] at q6
  have q5 := one_of_take e5
  have q4 := @take_seg cs 4 32
  rw [e4] at q4
  have q3 := one_of_take e3
  have q2 := one_of_take e2
  have q1 := one_of_take e1
  have q0 := one_of_take e0
  obtain ⟨x1l, x1o⟩ := mkx1_fit (seq := sq) (node := nd) (found := fo) (rc := rc) hky hrk hro
  have hfit : FrD.Fit ⟨k, fr, mkx1 sq nd ky fo rk rc ro, ou, at', da.data.toList, byV hz, m, [.slice A12 n12 c12, .slice A13 n13 c13, .slice A14 n14 c14]⟩ := ⟨x1l, hou, by show (byV hz).length = 64; rw [byV_length, hhz], hm.whole, rfl, x1o, byV_one _, rfl⟩
  refine ⟨_, ?_, hfit, by simpa using w9, hm, fun hd => ⟨hfit, (wf_bounds_ w0).1, (wf_bounds_ w0).2, (wf_bounds_ w8).1, (wf_bounds_ w8).2, Nat.le_trans hd (by decide), hm⟩⟩
  unfold FrD.cells mkx1
  have eda : (Value.string ⟨da.data.toList.toArray⟩) = .string da := by cases da; rfl
  simp only [eda]
  rw [← List.drop_zero (l := cs), q0, q1, q2, q3, ← q4, q5, ← q6, ← q7, q8, q9, ← q10]
  simp only [List.append_assoc, List.cons_append, List.nil_append, List.singleton_append]

end
theorem spot_of_cell {w : World} {a : Addr} {v : Value} (h : w.cell? a = some v) : a.spot = none := by
  unfold World.cell? at h
  split at h
  · by_cases hs : a.spot.isSome = true
    · rw [if_pos hs] at h; cases h
    · cases hsp : a.spot with
      | none => rfl
      | some x => rw [hsp] at hs; simp at hs
  · cases h

end Go.Proofs.YteihfoacdocgkaaDoor
