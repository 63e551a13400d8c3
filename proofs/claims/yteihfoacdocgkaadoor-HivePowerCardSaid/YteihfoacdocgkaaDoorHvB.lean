/-
  Layer 5 (hive): rows and texts: the walks of text, parts, asBlob, blobRow, read (of a free slot).
-/
import Derived.Test.YteihfoacdocgkaaDoorHvA
import Derived.Test.YteihfoacdocgkaaDoorShI
import Derived.Test.YteihfoacdocgkaaDoorRdH
import Derived.Test.YteihfoacdocgkaaDoorCoD
set_option linter.unusedVariables false
set_option linter.unusedSimpArgs false
namespace Go.Proofs.YteihfoacdocgkaaDoor
open Go.RowKit Pl
attribute [local go_sem] Lb.ba_get Lb.ba_cut Lb.ba_add Lb.ba_size Lb.take_rest

theorem ba_beqL (a b : List UInt8) : ((⟨a.toArray⟩ : ByteArray) == ⟨b.toArray⟩) = (a == b) := by
  have h : ((⟨a.toArray⟩ : ByteArray) == ⟨b.toArray⟩) = (a.toArray == b.toArray) := rfl
  rw [h]; simp
theorem ba_bneL (a b : List UInt8) : ((⟨a.toArray⟩ : ByteArray) != ⟨b.toArray⟩) = (a != b) := by
  unfold bne
  rw [ba_beqL]

/-- a slot's text, of a row -/
def textS (K : List Int) (row : List UInt8) : List UInt8 := hashB K row ++ row
/-- a blob's row -/
def blobRowS (b : List UInt8) : List UInt8 := srow [[98], b]
/-- a row's texts, if it is an entry's -/
def partsS (row : List UInt8) : List (List UInt8) := match rdRow row 4 with
  | some (ts, []) => ts
  | _ => []
def asB : List (List UInt8) → List UInt8 × Bool
  | [a, b] => if a = [98] ∧ b.length ≤ 512 then (b, true) else ([], false)
  | _ => ([], false)
def asBlobS (row : List UInt8) : List UInt8 × Bool := asB (partsS row)

set_option maxHeartbeats 2000000 in
set_option maxRecDepth 100000 in
theorem htext_any (K : List Int) (row : List UInt8) (w : World) (hL : Laid K w) (hl : row.length ≤ 140737488351232) :
    Calls Tryd.prog 127 #[.string ⟨row.toArray⟩] w fun e w' => e = .returned (.string ⟨(textS K row).toArray⟩) ∧ Below w.heap.size w w' := by
  obtain ⟨h, hh⟩ : ∃ h, h = hashB K row := ⟨_, rfl⟩
  have hh32 : h.length = 32 := by rw [hh]; exact hashB_length K row
  have hb1 := (Below.refl w.heap.size w).alloc (Nat.le_refl _) (.cells #[.string ⟨row.toArray⟩] 9)
  have cb : (w.alloc (.cells #[.string ⟨row.toArray⟩] 9)).cell? ⟨w.heap.size, 0, none⟩ = some (.string ⟨row.toArray⟩) := by rw [Lib.cell_of_heap (heap_alloc_new w _)]; rfl
  have hof := Lib.hid (of_hash K (some ⟨w.heap.size, 0, none⟩) 1 row _ (hL.below hb1) ⟨_, rfl, cb⟩ (by omega))
  rw [← hh] at hof
  have Hb1 := Lib.hid hb1
  have dixA : (Tryd.prog.info? 23).map (·.size) = some (digV h).size := by rw [dig_info, digV_size, hh32]
  have hone := digV_one h
  have hsz : (digV h).size = 32 := by rw [digV_size, hh32]
  have Hh := Lib.hid hh
  clear hL hb1 cb hh
  go_enter Tryd.func127, Tryd.ntmps127
  go_wp2_with fail
  refine hof.out.mono ?_
  rintro e w2 ⟨rfl, hB2⟩
  have hB3 : Below w.heap.size w w2 := Hb1.out.trans (hB2.mono Hb1.out.size)
  have HB3 := Lib.hid hB3
  obtain ⟨D, hD⟩ : ∃ D, D = digV h := ⟨_, rfl⟩
  rw [← hD] at dixA hone hsz ⊢
  have HDD := Lib.hid hD
  clear hB2 hB3 hof hD
  go_upto_region 2 with (refine wpList_store_row rfl 23 _ _ rfl w2.heap.size D rfl rfl 23 _ (heap_alloc_new w2 _) dixA (by rw [hsz]; rfl) hone ?_)
  show Code.wp _ _ _ _ ((w2.alloc (.cells (byV (List.replicate 32 0)).toArray 23)).setRow w2.heap.size D)
  have hq := setRow_heap _ _ _ D _ _ (heap_alloc_new w2 (.cells (byV (List.replicate 32 0)).toArray 23))
  have hB4 : Below w2.heap.size w2 ((w2.alloc (.cells (byV (List.replicate 32 0)).toArray 23)).setRow w2.heap.size D) := (Only.below (((Only.refl [w2.heap.size] w2).alloc _).setRow (by simp) _) (Nat.le_refl _) (by simp))
  obtain ⟨q, hqq⟩ : ∃ q, q = w2.heap.size := ⟨_, rfl⟩
  obtain ⟨w4, hw4⟩ : ∃ y, y = ((w2.alloc (.cells (byV (List.replicate 32 0)).toArray 23)).setRow w2.heap.size D) := ⟨_, rfl⟩
  rw [← hw4] at hq hB4 ⊢
  rw [← hqq] at hq ⊢
  have k1 : (convert 45 9 (.slice (some ⟨q, 0, none⟩) 32 32)).run Tryd.prog w4 = .ok (.string ⟨h.toArray⟩) w4 := by
    have := run_convert_bytes_back w4 45 9 5 ⟨q, 0, none⟩ 32 h Tryd.underlying45 Tryd.underlying5 Tryd.underlying9 (fun i hi => by
      rw [Addr.add_lit, Nat.zero_add, Lib.cell_of_heap hq, HDD.out]
      simp [digV, byV, hi])
    rwa [hh32] at this
  have HB5 := Lib.hid (HB3.out.trans (hB4.mono HB3.out.size))
  have dund := Tryd.underlying23
  clear hw4 hqq hB4 hq dixA hone hsz
  go_wp2_with fail
  go_ret
  exact ⟨by unfold textS; rw [← Hh.out]; rfl, HB5.out⟩

def PartsPost (row : List UInt8) (w : World) (e : Ending) (w' : World) : Prop := ∃ A cap, e = .returned (.slice A (partsS row).length cap) ∧ Strs w' w'.heap.size A (partsS row) ∧ (partsS row).length ≤ 4 ∧ Below w.heap.size w w'
set_option maxHeartbeats 2000000 in
theorem hparts_any (row : List UInt8) (w : World) (hl : row.length ≤ 140737488351232) : Calls Tryd.prog 129 #[.string ⟨row.toArray⟩] w (PartsPost row w) := by
  have hrr := Lib.hid (readRow_c row 4 (.inl (by decide)) (by omega) w)
  have hle : ∀ ts r, rdRow row 4 = some (ts, r) → ts.length ≤ 4 := fun ts r h => by have := (rdRow_len h).1; omega
  have Hle := Lib.hid hle
  clear hle
  go_enter Tryd.func129, Tryd.ntmps129
  go_wp2_with fail
  refine hrr.out.mono ?_
  rintro e w1 ⟨A, cap, ts, r, ok, rfl, ⟨hg, hS, -⟩, hB⟩
  have HB := Lib.hid hB
  have HS := Lib.hid hS
  obtain ⟨n, hn⟩ : ∃ n, n = ts.length := ⟨_, rfl⟩
  rw [← hn]
  have Hn := Lib.hid hn
  rcases hg with ⟨rfl, h1⟩ | ⟨rfl, h1, rfl, rfl⟩
  · by_cases hr : r = []
    · subst hr
      have hp : partsS row = ts := by unfold partsS; rw [h1]
      have Hp := Lib.hid hp
      have H4 := Lib.hid (Hle.out ts [] h1)
      clear hB hS h1 hp hn hrr Hle
      go_wp2_with fail
      go_ret
      unfold PartsPost
      rw [Hp.out, Hn.out]
      exact ⟨A, cap, rfl, HS.out, H4.out, HB.out⟩
    · have hp : partsS row = [] := by
        unfold partsS; rw [h1]
        cases r with
        | nil => exact absurd rfl hr
        | cons x xs => rfl
      have hne : r.isEmpty = false := by
        cases r with
        | nil => exact absurd rfl hr
        | cons x xs => rfl
      have Hp := Lib.hid hp
      clear hB hS h1 hp hn hrr Hle hr
      go_wp2_with fail
      go_ret
      unfold PartsPost
      rw [Hp.out]
      exact ⟨none, 0, rfl, fun i hi => absurd hi (by simp), by simp, HB.out⟩
  · have hp : partsS row = [] := by unfold partsS; rw [h1]
    have Hp := Lib.hid hp
    clear hB hS h1 hp hn hrr Hle
    go_wp2_with fail
    go_ret
    unfold PartsPost
    rw [Hp.out]
    exact ⟨none, 0, rfl, fun i hi => absurd hi (by simp), by simp, HB.out⟩

theorem spot_of_cell' {w : World} {a : Addr} {v : Value} (h : w.cell? a = some v) : a.spot = none := by
  unfold World.cell? at h
  split at h
  · by_cases hs : a.spot.isSome = true
    · rw [if_pos hs] at h; cases h
    · cases hsp : a.spot with
      | none => rfl
      | some x => rw [hsp] at hs; simp at hs
  · cases h
theorem asB_no : ∀ (ts : List (List UInt8)), ¬ ts.length = 2 → asB ts = ([], false)
  | [], _ => rfl
  | [_], _ => rfl
  | [_, _], h => absurd rfl h
  | _ :: _ :: _ :: _, _ => rfl
set_option maxHeartbeats 2000000 in
theorem asBlob_any (row : List UInt8) (w : World) (hl : row.length ≤ 140737488351232) :
    Calls Tryd.prog 71 #[.string ⟨row.toArray⟩] w fun e w' => e = .returned (.tuple #[.string ⟨((asBlobS row).1).toArray⟩, .bool (asBlobS row).2]) ∧ Below w.heap.size w w' := by
  have hpp := Lib.hid (hparts_any row w hl)
  obtain ⟨res, hres⟩ : ∃ r, r = asBlobS row := ⟨_, rfl⟩
  rw [← hres]
  unfold asBlobS at hres
  obtain ⟨ts, hts⟩ : ∃ ts, ts = partsS row := ⟨_, rfl⟩
  unfold PartsPost at hpp
  rw [← hts] at hpp hres
  have HR := Lib.hid hres
  clear hts hl hres
  go_enter Tryd.func71, Tryd.ntmps71
  go_wp2_with fail
  refine hpp.out.mono ?_
  rintro e w1 ⟨A, cap, rfl, hS, h4, hB⟩
  have HB := Lib.hid hB
  clear hB hpp
  by_cases h2 : ts.length = 2
  · obtain ⟨a, b, rfl⟩ : ∃ a b, ts = [a, b] := by
      match ts, h2 with
      | [a, b], _ => exact ⟨a, b, rfl⟩
    obtain ⟨x, rfl, -, hc0⟩ := hS 0 (by simp)
    obtain ⟨y, hy, -, hc1⟩ := hS 1 (by simp)
    obtain rfl := Option.some.inj hy
    have hsp := spot_of_cell' hc0
    obtain ⟨b0, o0, s0⟩ := x
    have hsp0 : s0 = none := by
      rw [Addr.add] at hsp
      cases s0 with
      | none => rfl
      | some y => simp at hsp
    subst hsp0
    rw [Addr.add_lit] at hc0 hc1
    have hc0' : w1.cell? ⟨b0, o0, none⟩ = some (.string ⟨a.toArray⟩) := hc0
    have hc1' : w1.cell? ⟨b0, o0 + 1, none⟩ = some (.string ⟨b.toArray⟩) := hc1
    clear hS h4 h2 hc0 hc1 hy hsp
    have e2 : ([a, b] : List (List UInt8)).length = 2 := rfl
    rw [e2]
    by_cases ha : a = [98]
    · subst ha
      have s1 : ((⟨#[98]⟩ : ByteArray) != ⟨#[98]⟩) = false := ba_bneL [98] [98]
      have s2 : ((⟨#[98]⟩ : ByteArray) == ⟨#[98]⟩) = true := ba_beqL [98] [98]
      by_cases hb : b.length ≤ 512
      · have i1 : ¬ (512 : Int) < (b.length : Int) := by omega
        have hres : Hid (res = (b, true)) := Lib.hid (HR.out.trans (if_pos ⟨rfl, hb⟩))
        clear hb HR
        go_wp2_with fail
        go_ret2
        rw [hres.out]
        exact ⟨rfl, HB.out⟩
      · have i1 : (512 : Int) < (b.length : Int) := by omega
        have hres : Hid (res = ([], false)) := Lib.hid (HR.out.trans (if_neg (fun h => hb h.2)))
        clear hb HR
        go_wp2_with fail
        go_ret2
        rw [hres.out]
        exact ⟨rfl, HB.out⟩
    · have hne : (a == [98]) = false := by simp [ha]
      have hres : Hid (res = ([], false)) := Lib.hid (HR.out.trans (if_neg (fun h => ha h.1)))
      clear ha HR
      go_wp2_with fail
      go_ret2
      rw [hres.out]
      exact ⟨rfl, HB.out⟩
  · have hres : Hid (res = ([], false)) := Lib.hid (HR.out.trans (asB_no ts h2))
    clear HR
    obtain ⟨m, hm⟩ : ∃ m, m = ts.length := ⟨_, rfl⟩
    rw [← hm] at h2 h4 ⊢
    have i1 : ((m : Int) != 2) = true := by simp; omega
    clear hS hm
    go_wp2_with fail
    go_ret2
    rw [hres.out]
    exact ⟨rfl, HB.out⟩

set_option maxHeartbeats 2000000 in
theorem blobRow_any (b : List UInt8) (w : World) (hl : b.length ≤ 512) :
    Calls Tryd.prog 69 #[.string ⟨b.toArray⟩] w fun e w' => e = .returned (.string ⟨(blobRowS b).toArray⟩) ∧ Below w.heap.size w w' := by
  have hb1 := (Below.refl w.heap.size w).alloc (Nat.le_refl _) (.cells #[.string ⟨#[98]⟩, .string ⟨b.toArray⟩] 9)
  have hS : Strs (w.alloc (.cells #[.string ⟨#[98]⟩, .string ⟨b.toArray⟩] 9)) (w.alloc (.cells #[.string ⟨#[98]⟩, .string ⟨b.toArray⟩] 9)).heap.size (some ⟨w.heap.size, 0, none⟩) [[98], b] := by
    intro i hi
    have hg := heap_alloc_new w (.cells #[.string ⟨#[98]⟩, .string ⟨b.toArray⟩] 9)
    refine ⟨_, rfl, heap_lt hg, ?_⟩
    rw [Addr.add_lit, Nat.zero_add, Lib.cell_of_heap hg]
    match i, hi with
    | 0, _ => rfl
    | 1, _ => rfl
  have hlen : (srow [[98], b]).length ≤ 140737488355328 := by
    have h2 := num_length 2 (by omega)
    have h3 := num_length 1 (by omega)
    have h4 := num_length b.length (by omega)
    simp only [srow, textsB, textB, List.map_cons, List.map_nil, List.flatten_cons, List.flatten_nil, List.length_append, List.length_nil, List.length_cons, Nat.add_zero, Nat.zero_add, Nat.reduceAdd]
    omega
  have hr := Lib.hid (row_any _ 2 [[98], b] _ hS hlen)
  have Hb1 := Lib.hid hb1
  clear hb1 hS hlen
  go_enter Tryd.func69, Tryd.ntmps69
  go_wp2_with fail
  refine hr.out.mono ?_
  rintro e w2 ⟨rfl, hB⟩
  have HB := Lib.hid (Hb1.out.trans (hB.mono Hb1.out.size))
  clear hB hr
  go_wp2_with fail
  go_ret
  exact ⟨rfl, HB.out⟩

theorem results_cell_row3 {P : Program} {fn : Func} {p u v : Tmp} {ty : TypeId} (h : fn.results = #[.cell p ty, .tmp u, .tmp v]) (tmps : Array Value) (w : World) (g : Nat) (t : TypeId) (cs : Array Value) (fr : Nat × Nat) (d : TypeDesc)
    (hp : tmps.getD p undef = .pointer (some ⟨g, 0, none⟩)) (hg : w.heap[g]? = some (.cells cs t fr))
    (hu : P.underlying ty = some d) (hd : (match d with | .struct _ | .array _ _ => true | _ => false) = true) (hi : (P.info? ty).map (·.size) = some cs.size) :
    (results fn tmps).run P w = .ok (.tuple #[.agg cs, tmps.getD u undef, tmps.getD v undef]) w := by
  have hp' : tmps[p]?.getD undef = .pointer (some ⟨g, 0, none⟩) := by simpa using hp
  simp [results, h, hp', asAddr, run_loadVar_row w g t ty cs fr d hg hu hd hi]
theorem wpList_build0' {P : Program} {ops : Array Oper} {rest : List Oper} {o : Oper} {a : Act} {w : World} {Q : Exit → Act → World → Prop} (hg : o.guard = none) (t : TypeId) (ho : o.op = .build t #[]) (C : Array Value) (hB : P.built t [] = some C)
    (h : wpList P ops Q rest (a.put o.dst (.agg C)) w) : wpList P ops Q (o :: rest) a w := by
  refine wpList_build hg t _ ho ?_ ?_
  · simp only [List.map_toArray, List.map_nil, hB]; rfl
  · simp only [List.map_toArray, List.map_nil, hB]; exact h
def zeroName : Array Value := (Value.bool false :: byV (List.replicate 32 0)).toArray
theorem name_info : (Tryd.prog.info? 127).map (·.size) = some 33 := by kernel_rfl
set_option maxRecDepth 100000 in
theorem built_name0 : Tryd.prog.built 127 [] = some zeroName := by kernel_rfl
set_option maxHeartbeats 2000000 in
set_option maxRecDepth 100000 in
theorem hread_free (w : World) :
    Calls Tryd.prog 124 #[.string ⟨#[]⟩] w fun e w' => e = .returned (.tuple #[.agg zeroName, .string ⟨#[]⟩, .bool false]) ∧ Below w.heap.size w w' := by
  have h0 := heap_alloc_new w (.cells zeroName 127)
  have b0 := (Below.refl w.heap.size w).alloc (Nat.le_refl _) (.cells zeroName 127)
  have hone : zeroName.all (·.oneCell') = true := by kernel_rfl
  go_enter Tryd.func124, Tryd.ntmps124
  go_upto_region 1 with fail
  show Code.wp _ _ _ _ (w.alloc (.cells zeroName 127))
  obtain ⟨q, hq⟩ : ∃ q, q = w.heap.size := ⟨_, rfl⟩
  obtain ⟨w1, hw1⟩ : ∃ y, y = w.alloc (.cells zeroName 127) := ⟨_, rfl⟩
  rw [← hw1] at h0 b0 ⊢
  rw [← hq] at h0 ⊢
  have H0 := Lib.hid h0
  have Hq := Lib.hid hq
  have Hb0 := Lib.hid b0
  clear hw1 hq h0 b0
  go_upto_region 2 with fail
  go_wp2_with (first
    | (refine wpList_build0' rfl 127 rfl zeroName built_name0 ?_)
    | (refine wpList_store_row rfl 127 _ _ rfl q zeroName rfl rfl 127 zeroName H0.out name_info rfl hone ?_))
  (try simp only [Exit.inBlock, Exit.then])
  refine bodyPost_ret (results_cell_row3 rfl _ _ q 127 zeroName (0, 0) _ rfl (setRow_heap _ _ _ _ _ _ H0.out) Tryd.underlying127 rfl name_info) rfl ?_
  refine ⟨rfl, ?_⟩
  exact Hb0.out.trans (((Only.refl [q] w1).setRow (by simp) _).below Hb0.out.size (by intro x hx; simp at hx; rw [hx, Hq.out]; exact Nat.le_refl _))
end Go.Proofs.YteihfoacdocgkaaDoor
