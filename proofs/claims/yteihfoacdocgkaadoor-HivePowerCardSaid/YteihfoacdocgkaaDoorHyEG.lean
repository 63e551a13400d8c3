/-
  Layer 5's laws: an act in a block of its own; a store that is looked at behind a loss of power.
-/
import Derived.Test.YteihfoacdocgkaaDoorHyAD
import Derived.Test.YteihfoacdocgkaaDoorHxEG
import Derived.Test.YteihfoacdocgkaaDoorHwI
set_option linter.unusedVariables false
set_option linter.unusedSimpArgs false
namespace Go.Proofs.YteihfoacdocgkaaDoor
open Go.RowKit Pl Sh
attribute [local go_sem] Lb.ba_get Lb.ba_cut Lb.ba_add Lb.ba_size Lb.take_rest

/-- a new shelf holds nothing -/
theorem d_new {K : List Int} {n : Nat} {b g : Nat} {w : World} (h : ShAt w b g (St.new n)) (k : Nat) (hk : k ≤ 49000) : DOn K w b g n k [] [] := by
  refine ⟨St.new n, h, ⟨⟨rfl, rfl, by show 0 ≤ _; omega, by show 0 < 100000; omega, by simp [St.new]⟩, by omega, by show 0 + k ≤ 50000; omega, new_small n, ⟨(fun r hr => by cases hr), List.Pairwise.nil⟩, [], rfl, List.nodup_nil, (fun p hp => by cases hp), fun i x hx => ?_⟩⟩
  have hm := List.mem_of_getElem? hx
  have : x = ⟨[], [], false⟩ := by
    unfold St.new at hm
    exact (List.mem_replicate.1 hm).2
  subst this
  exact ⟨rfl, .inr ⟨(fun p hp => by cases hp), rfl⟩⟩
def TextsPost (ds : List ActH) (w : World) (e : Ending) (w' : World) : Prop :=
  ∃ (A : Option Addr) (c : Nat) (ls : List (List UInt8)), e = .returned (.slice A ls.length c) ∧ Strs w' w'.heap.size A ls ∧ ls.length ≤ 70 ∧ (∀ t ∈ ls, t.length ≤ 1000) ∧ (∀ (j : Nat) (h : j < ds.length), j < 70 → ds[j].text ∈ ls) ∧ Below w.heap.size w w'
set_option maxHeartbeats 4000000 in
theorem texts_any (A : Option Addr) (cap : Nat) (ds : List ActH) (w : World) (hS : ActsH w w.heap.size A ds) (hl : ds.length ≤ maxLen) (hsm : ∀ (j : Nat) (h : j < ds.length), j < 70 → SmallAct ds[j]) :
    Calls Tryd.prog 29 #[.slice A ds.length cap] w (TextsPost ds w) := by
  have HS := Lib.hid hS
  have Hsm := Lib.hid hsm
  obtain ⟨n, hn⟩ : ∃ n, n = ds.length := ⟨_, rfl⟩
  rw [← hn] at hl ⊢
  unfold maxLen at hl
  have n63 : (n : Int) ≤ 9223372036854775807 := by omega
  have Hn := Lib.hid hn
  have hk0 := Lib.hid (kept_nil (S := []) (Nat.le_refl w.heap.size) (fun x hx => by cases hx))
  have hb0 := Lib.hid ((Below.refl w.heap.size w).alloc (Nat.le_refl _) (.cells #[] 9))
  clear hS hn hsm
  go_enter Tryd.func29, Tryd.ntmps29
  go_wp2_with fail
  go_loopw [3, 4] (fun v i wr => ∃ (k : Nat) (ls : List (List UInt8)), k ≤ n ∧ k ≤ 70 ∧ i = .int .i64 k ∧ ls.length ≤ k ∧ (∀ t ∈ ls, t.length ≤ 1000) ∧ (∀ (j : Nat) (h : j < ds.length), j < k → ds[j].text ∈ ls) ∧ KeptV wr w.heap.size v ls [] ∧ Below w.heap.size w wr) (fun _ i _ => n - (intOf i).toNat)
  case atStart => exact ⟨0, [], by omega, by omega, rfl, by simp, (fun t ht => by cases ht), (fun j h hj => by omega), hk0.out, hb0.out⟩
  case round =>
    obtain ⟨k, ls, hk, hk70, rfl, hll, ht, hin, hkv, hb⟩ := hrel
    have Ht := Lib.hid ht
    have Hin := Lib.hid hin
    have Hkv := Lib.hid hkv
    have Hb := Lib.hid hb
    clear ht hin hkv hb hk0 hb0
    by_cases hkn : k < n ∧ k < 70
    · obtain ⟨h1, h2⟩ := hkn
      have j1 : (k : Int) < (n : Int) := by omega
      have j2 : (k : Int) < 70 := by omega
      have hkl : k < ds.length := by rw [← Hn.out]; exact h1
      obtain ⟨b, o, rfl, hbl, hr, hok⟩ := (HS.out.below Hb.out) k hkl
      obtain ⟨-, c1, -, -, -⟩ := actH_cells hr hok.rfit
      obtain ⟨hs1, -⟩ := Hsm.out k hkl h2
      obtain ⟨s, hs⟩ : ∃ s, s = ds[k].text := ⟨_, rfl⟩
      rw [← hs] at c1 hs1
      have Hs := Lib.hid hs
      have Hs1 := Lib.hid hs1
      obtain ⟨A9, c9, rfl, hs9⟩ := Hkv.out.shape
      have hha := Lib.hid (has_any A9 c9 ls s wr hs9 (by unfold maxLen; omega))
      obtain ⟨nk, hnk⟩ : ∃ n, n = ls.length := ⟨_, rfl⟩
      rw [← hnk] at hha ⊢
      have Hnk := Lib.hid hnk
      have hkl3 : ls.length ≤ 1000 := by omega
      clear hr hok hs hs9 hnk hbl hs1
      by_cases hk : s ∈ ls
      · rw [decide_eq_true hk] at hha
        have Hk := Lib.hid hk
        clear hk
        go_wp2_with fail
        refine hha.out.mono ?_
        rintro r w10 ⟨rfl, rfl⟩
        clear hha
        go_wp2_with fail
        go_roundw
        case rel => exact ⟨k + 1, ls, by omega, by omega, by go_num, by omega, Ht.out, (fun j h hj => by
          by_cases e : j = k
          · subst e; rw [← Hs.out]; exact Hk.out
          · exact Hin.out j h (by omega)), by rw [Hnk.out]; exact Hkv.out, Hb.out⟩
        case measure => simp [intOf]; omega
      · rw [decide_eq_false hk] at hha
        clear hk
        have hb13 := (Below.refl wr.heap.size wr).alloc (Nat.le_refl _) (.cells #[.string ⟨s.toArray⟩] 9)
        have hkv13 : KeptV (wr.alloc (.cells #[.string ⟨s.toArray⟩] 9)) w.heap.size (.slice A9 nk c9) ls [] := by have h := Hkv.out.below hb13; rw [← Hnk.out] at h; exact h
        have hsrc : Src Tryd.prog 1 49 (.slice (some ⟨wr.heap.size, 0, none⟩) 1 1) 1 [.string ⟨s.toArray⟩] (wr.alloc (.cells #[.string ⟨s.toArray⟩] 9)) := str_src _ 1 _ (by rw [Lib.cell_of_heap (heap_alloc_new wr _)]; rfl)
        have HB13 := Lib.hid (Hb.out.trans (hb13.mono Hb.out.size))
        have hBw := HB13.out.size
        have hS13 : ∀ z ∈ ([] : List Nat), z < (wr.alloc (.cells #[.string ⟨s.toArray⟩] 9)).heap.size := fun z hz => by cases hz
        clear hb13
        go_wp2_with fail
        refine hha.out.mono ?_
        rintro r w10 ⟨rfl, rfl⟩
        clear hha
        go_wp2_with (at_builtin; refine wpList_append_kept _ rfl _ _ rfl hBw rfl hkv13 hS13 hkl3 _ s rfl hsrc ?_)
        intro v' w14 T hkv14 hT hTS
        have HB14 := Lib.hid (HB13.out.trans (hT.below HB13.out.size (fun z hz => by have h := hTS z hz; first | exact h | exact h.1)))
        have Hkv14 := Lib.hid hkv14
        clear hkv14 hT hTS hkv13 hsrc hBw hS13
        go_wp2_with fail
        go_roundw
        case rel => exact ⟨k + 1, ls ++ [s], by omega, by omega, by go_num, by simp; omega, (fun t ht => by
          rcases List.mem_append.1 ht with ht | ht
          · exact Ht.out t ht
          · simp only [List.mem_singleton] at ht; subst ht; exact Hs1.out), (fun j h hj => by
          by_cases e : j = k
          · subst e; rw [← Hs.out]; simp
          · exact List.mem_append_left _ (Hin.out j h (by omega))), Hkv14.out, HB14.out⟩
        case measure => simp [intOf]; omega
    · obtain ⟨A9, c9, rfl, hs9⟩ := Hkv.out.shape
      have Hs9 := Lib.hid hs9
      have key : ((k : Int) < (n : Int) ∧ ¬ (k : Int) < 70) ∨ ¬ (k : Int) < (n : Int) := by omega
      have hfin : Hid (TextsPost ds w (.returned (.slice A9 ls.length c9)) wr) := Lib.hid ⟨A9, c9, ls, rfl, Hs9.out, by omega, Ht.out, (fun j h hj => Hin.out j h (by have := Hn.out; omega)), Hb.out⟩
      clear hs9 hkn
      rcases key with ⟨j1, j2⟩ | j1
      all_goals
        go_wp2_with fail
        go_ret
        exact hfin.out
end Go.Proofs.YteihfoacdocgkaaDoor

set_option linter.unusedVariables false
set_option linter.unusedSimpArgs false
namespace Go.Proofs.YteihfoacdocgkaaDoor
open Go.RowKit Pl Sh

def namedB (K : List Int) (b : Bool) (id row : List UInt8) : Bool := decide (rowS K row = some (b, id, row))
def recA (K : List Int) (C : List (List UInt8)) (r : RecD) : Int × List (List UInt8) :=
  if isRecS r = true then (match C.find? (namedB K false r.key) with
    | some row => (if row = recRowS r then 0 else 21, C)
    | none => (0, C ++ [recRowS r])) else (1, C)
def blobA (K : List Int) (C : List (List UInt8)) (b : List UInt8) : Int × List (List UInt8) :=
  if 512 < b.length then (33, C) else match C.find? (namedB K true (hashB K b)) with
    | some _ => (0, C)
    | none => (0, C ++ [blobRowS b])
theorem find_named {K : List Int} {C : List (List UInt8)} {b : Bool} {id : List UInt8} : (∃ row, C.find? (namedB K b id) = some row ∧ row ∈ C ∧ rowS K row = some (b, id, row)) ∨ (C.find? (namedB K b id) = none ∧ ∀ row ∈ C, rowS K row ≠ some (b, id, row)) := by
  cases h : C.find? (namedB K b id) with
  | some row =>
    have h1 := List.find?_some h
    have h2 := List.mem_of_find?_eq_some h
    exact .inl ⟨row, rfl, h2, of_decide_eq_true h1⟩
  | none =>
    refine .inr ⟨rfl, fun row hr he => ?_⟩
    have := List.find?_eq_none.1 h row hr
    exact this (by unfold namedB; exact decide_eq_true he)
theorem named_one {K : List Int} {C : List (List UInt8)} (h : RowsOk K C) {b : Bool} {id r1 r2 : List UInt8} (h1 : r1 ∈ C) (h2 : r2 ∈ C) (e1 : rowS K r1 = some (b, id, r1)) (e2 : rowS K r2 = some (b, id, r2)) : r1 = r2 := by
  refine Classical.byContradiction fun hne => ?_
  exact pw_sym (fun x y h b id h1 h2 => h b id h2 h1) h.names r1 h1 r2 h2 hne b id e1 e2
/-- the rows of a store behind i calls -/
structure AgI (ds : List ActH) (i : Nat) (C : List (List UInt8)) : Prop where
  len : C.length ≤ i
  src : ∀ r ∈ C, (∃ (j : Nat) (h : j < ds.length), j < 70 ∧ ds[j].text.length ≤ 512 ∧ r = blobRowS ds[j].text) ∨ (∃ x : RecD, x.Fit ∧ isRecS x = true ∧ r = recRowS x)
  all : ∀ (j : Nat) (h : j < ds.length), j < i → ds[j].kind ≠ 2 → ds[j].text.length ≤ 512 → blobRowS ds[j].text ∈ C
theorem AgI.record {K : List Int} {ds : List ActH} {i : Nat} {C : List (List UInt8)} {r : RecD} (h : AgI ds i C) (hf : r.Fit) (hi : i < ds.length) (hk : ds[i].kind = 2) : AgI ds (i + 1) (recA K C r).2 := by
  have hsame : AgI ds (i + 1) C := ⟨by have := h.len; omega, h.src, fun j hj hji hk2 hl => by
    by_cases e : j = i
    · subst e; exact absurd hk hk2
    · exact h.all j hj (by omega) hk2 hl⟩
  unfold recA
  split
  · rename_i hrs
    split
    · exact hsame
    · refine ⟨by have := h.len; rw [List.length_append]; simp; omega, fun x hx => ?_, fun j hj hji hk2 hl => List.mem_append_left _ (hsame.all j hj hji hk2 hl)⟩
      rcases List.mem_append.1 hx with hx | hx
      · exact h.src x hx
      · simp only [List.mem_singleton] at hx
        exact .inr ⟨r, hf, hrs, hx⟩
  · exact hsame
/-- no two of the texts have one digest -/
def InjT (K : List Int) (ds : List ActH) : Prop := ∀ (i j : Nat) (hi : i < ds.length) (hj : j < ds.length), i < 70 → j < 70 → hashB K ds[i].text = hashB K ds[j].text → ds[i].text = ds[j].text
theorem injT_of {K : List Int} {ds : List ActH} {ls : List (List UInt8)} (ha : AloneH K ls ls.length) (hin : ∀ (j : Nat) (h : j < ds.length), j < 70 → ds[j].text ∈ ls) : InjT K ds := by
  intro i j hi hj hi7 hj7 hxy
  obtain ⟨a, ha1, ea⟩ := List.getElem_of_mem (hin i hi hi7)
  obtain ⟨b, hb1, eb⟩ := List.getElem_of_mem (hin j hj hj7)
  rw [getD_getH ha1] at ea
  rw [getD_getH hb1] at eb
  refine Classical.byContradiction fun hne => ?_
  rcases Nat.lt_trichotomy a b with h | h | h
  · exact ha b hb1 a h (by rw [ea, eb]; exact fun e => hne e.symm) (by rw [ea, eb]; exact hxy.symm)
  · subst h; exact hne (by rw [← ea, ← eb])
  · exact ha a ha1 b h (by rw [ea, eb]; exact hne) (by rw [ea, eb]; exact hxy)
theorem AgI.row {K : List Int} {ds : List ActH} {i j : Nat} {C : List (List UInt8)} {row : List UInt8} (h : AgI ds i C) (hinj : InjT K ds) (hj : j < ds.length) (hj7 : j < 70) (hr : row ∈ C) (he : rowS K row = some (true, hashB K ds[j].text, row)) : ds[j].text.length ≤ 512 ∧ row = blobRowS ds[j].text := by
  rcases h.src row hr with ⟨l, hl, hl7, hb, rfl⟩ | ⟨x, hf, hi, rfl⟩
  · rw [rowS_of_blob K _ hb] at he
    simp only [Option.some.injEq, Prod.mk.injEq, true_and, and_true] at he
    have := hinj l j hl hj hl7 hj7 he
    rw [← this]
    exact ⟨hb, rfl⟩
  · rw [rowS_of_rec K x hf hi] at he
    simp at he
theorem AgI.blob {K : List Int} {ds : List ActH} {i : Nat} {C : List (List UInt8)} (h : AgI ds i C) (hinj : InjT K ds) (hi : i < ds.length) (hi7 : i < 70) : AgI ds (i + 1) (blobA K C ds[i].text).2 := by
  unfold blobA
  split
  · rename_i hb
    exact ⟨by have := h.len; show C.length ≤ i + 1; omega, h.src, fun j hj hji hk2 hl => by
      by_cases e : j = i
      · subst e; omega
      · exact h.all j hj (by omega) hk2 hl⟩
  · rename_i hb
    rcases find_named (K := K) (C := C) (b := true) (id := hashB K ds[i].text) with ⟨row, e1, e2, e3⟩ | ⟨e1, e2⟩
    · rw [e1]
      refine ⟨by have := h.len; show C.length ≤ i + 1; omega, h.src, fun j hj hji hk2 hl => ?_⟩
      by_cases e : j = i
      · subst e
        rw [← (h.row hinj hi hi7 e2 e3).2]; exact e2
      · exact h.all j hj (by omega) hk2 hl
    · rw [e1]
      refine ⟨by have := h.len; show (C ++ _).length ≤ i + 1; rw [List.length_append]; simp; omega, fun x hx => ?_, fun j hj hji hk2 hl => ?_⟩
      · rcases List.mem_append.1 hx with hx | hx
        · exact h.src x hx
        · simp only [List.mem_singleton] at hx
          exact .inl ⟨i, hi, hi7, by omega, hx⟩
      · by_cases e : j = i
        · subst e; show _ ∈ C ++ _; simp
        · exact List.mem_append_left _ (h.all j hj (by omega) hk2 hl)
theorem nodup_sub_len {α : Type} [DecidableEq α] : ∀ {l1 l2 : List α}, l1.Nodup → (∀ x ∈ l1, x ∈ l2) → l1.length ≤ l2.length
  | [], l2, _, _ => Nat.zero_le _
  | a :: l, l2, h, hs => by
    obtain ⟨h1, h2⟩ := List.nodup_cons.1 h
    have ha : a ∈ l2 := hs a (by simp)
    have := nodup_sub_len (l2 := l2.erase a) h2 (fun x hx => (List.mem_erase_of_ne (fun e : x = a => h1 (by rw [← e]; exact hx))).2 (hs x (by simp [hx])))
    rw [List.length_erase_of_mem ha] at this
    have hp : 0 < l2.length := List.length_pos_of_mem ha
    simp only [List.length_cons]
    omega
end Go.Proofs.YteihfoacdocgkaaDoor

set_option linter.unusedVariables false
set_option linter.unusedSimpArgs false
namespace Go.Proofs.YteihfoacdocgkaaDoor
open Go.RowKit Pl Sh

theorem act05_info : (Tryd.prog.info? 71).map (·.size) = some 69 := by kernel_rfl
theorem act05_zero : Tryd.zeroCells71.size = 69 := by kernel_rfl
theorem actH_one (a : ActH) : a.cells.toArray.all (·.oneCell') = true := by
  rw [Array.all_eq_true_iff_forall_mem]
  intro v hv
  rw [List.mem_toArray] at hv
  unfold ActH.cells at hv
  simp only [List.mem_cons, List.mem_append, List.not_mem_nil, or_false] at hv
  rcases hv with rfl | rfl | h | rfl | rfl
  · rfl
  · rfl
  · obtain ⟨kd, n, rfl⟩ := rec_cells_int a.r v h
    rfl
  · rfl
  · rfl
theorem act_blk {w : World} {xb : Nat} {a : ActH} (h : w.heap[xb]? = some (.cells a.cells.toArray 71 (0, 0))) (hf : a.r.Fit) :
    w.cell? ⟨xb, 0, none⟩ = some (.int .i64 a.kind) ∧ w.cell? ⟨xb, 1, none⟩ = some (.string ⟨a.text.toArray⟩) ∧ w.rangeAt xb 2 a.r.cells ∧ w.rangeAt xb 2 (byV a.r.key) ∧ w.cell? ⟨xb, 67, none⟩ = some (.int .i64 a.at_) ∧ w.cell? ⟨xb, 68, none⟩ = some (.slice a.A a.fs.length a.cap) := by
  have hr : w.rangeAt xb 0 a.cells := fun k v hv => by
    rw [Lib.cell_of_heap h, Nat.zero_add, List.getElem?_toArray]; exact hv
  obtain ⟨c0, c1, cr, c3, c4⟩ := actH_cells hr hf
  rw [Nat.zero_add] at c1 cr c3 c4
  refine ⟨c0, c1, cr, fun k v hv => ?_, c3, c4⟩
  refine cr k v ?_
  unfold RecD.cells
  rw [List.getElem?_append_left (List.getElem?_eq_some_iff.1 hv).1]; exact hv
theorem rec_blk {w : World} {b : Nat} {r : RecD} {T : TypeId} (h : w.heap[b]? = some (.cells r.row T (0, 0))) : w.rangeAt b 0 (byV r.key) ∧ w.rangeAt b 0 r.cells := by
  have hr : w.rangeAt b 0 r.cells := fun k v hv => by
    rw [Lib.cell_of_heap h, Nat.zero_add]; unfold RecD.row; rw [List.getElem?_toArray]; exact hv
  refine ⟨fun k v hv => hr k v ?_, hr⟩
  unfold RecD.cells
  rw [List.getElem?_append_left (List.getElem?_eq_some_iff.1 hv).1]; exact hv
/-- a store, and a block of an act beside it -/
def PAll (w wx : World) (q : HvP) (n k sb sg xb : Nat) (A : Bool) (ac : List Value) (C Kp : List (List UInt8)) (S : List Nat) : Prop :=
  q.b = sb ∧ q.g = sg ∧ PBox KK wx q n k A C Kp S ∧ (∀ x ∈ S, w.heap.size ≤ x) ∧ xb ∉ S ∧ wx.heap[xb]? = some (.cells ac.toArray 71 (0, 0)) ∧ Below w.heap.size w wx
theorem PAll.step {w wx wy : World} {q : HvP} {n k k' sb sg xb : Nat} {A : Bool} {ac : List Value} {C Kp C' Kp' : List (List UInt8)} {S S' : List Nat} (h : PAll w wx q n k sb sg xb A ac C Kp S) (hb : PBox KK wy q n k' A C' Kp' S') (hO : Only S wx wy) (hS : ∀ x ∈ S', x ∈ S ∨ wx.heap.size ≤ x) : PAll w wy q n k' sb sg xb A ac C' Kp' S' := by
  obtain ⟨h1, h2, h3, h4, h5, h6, h7⟩ := h
  have hx := heap_lt h6
  refine ⟨h1, h2, hb, fun x hx => ?_, fun hx2 => ?_, (hO.block xb hx h5).trans h6, h7.trans (hO.below h7.size h4)⟩
  · rcases hS x hx with h | h
    · exact h4 x h
    · exact Nat.le_trans h7.size h
  · rcases hS xb hx2 with h | h
    · exact h5 h
    · omega
theorem PAll.below {w wx wy : World} {q : HvP} {n k sb sg xb : Nat} {A : Bool} {ac : List Value} {C Kp : List (List UInt8)} {S : List Nat} (h : PAll w wx q n k sb sg xb A ac C Kp S) (hb : Below wx.heap.size wx wy) : PAll w wy q n k sb sg xb A ac C Kp S := by
  obtain ⟨h1, h2, h3, h4, h5, h6, h7⟩ := h
  exact ⟨h1, h2, h3.below hb, h4, h5, below_keep hb h6, h7.trans (hb.mono h7.size)⟩
theorem PAll.less {w wx : World} {q : HvP} {n k k' sb sg xb : Nat} {A : Bool} {ac : List Value} {C Kp : List (List UInt8)} {S : List Nat} (h : PAll w wx q n k sb sg xb A ac C Kp S) (hk : k' ≤ k) : PAll w wx q n k' sb sg xb A ac C Kp S := by
  obtain ⟨h1, h2, h3, h4, h5, h6, h7⟩ := h
  exact ⟨h1, h2, h3.less hk, h4, h5, h6, h7⟩
theorem PAll.box {w wx : World} {q : HvP} {n k sb sg xb : Nat} {A : Bool} {ac : List Value} {C Kp : List (List UInt8)} {S : List Nat} (h : PAll w wx q n k sb sg xb A ac C Kp S) : PBox KK wx q n k A C Kp S := h.2.2.1
theorem PAll.lo {w wx : World} {q : HvP} {n k sb sg xb : Nat} {A : Bool} {ac : List Value} {C Kp : List (List UInt8)} {S : List Nat} (h : PAll w wx q n k sb sg xb A ac C Kp S) : ∀ x ∈ S, w.heap.size ≤ x := h.2.2.2.1
theorem PAll.blk {w wx : World} {q : HvP} {n k sb sg xb : Nat} {A : Bool} {ac : List Value} {C Kp : List (List UInt8)} {S : List Nat} (h : PAll w wx q n k sb sg xb A ac C Kp S) : wx.heap[xb]? = some (.cells ac.toArray 71 (0, 0)) := h.2.2.2.2.2.1
theorem PAll.old {w wx : World} {q : HvP} {n k sb sg xb : Nat} {A : Bool} {ac : List Value} {C Kp : List (List UInt8)} {S : List Nat} (h : PAll w wx q n k sb sg xb A ac C Kp S) : Below w.heap.size w wx := h.2.2.2.2.2.2
theorem PAll.zero {w wx : World} {q : HvP} {n k sb sg xb : Nat} {A : Bool} {ac : List Value} {C Kp : List (List UInt8)} {S : List Nat} (h : PAll w wx q n k sb sg xb A ac C Kp S) (h0 : 0 < w.heap.size) : 0 ∉ S := fun hx => by have := h.lo 0 hx; omega
/-- a store of which only its length is asked yet -/
def LenBox (w : World) (q : HvP) (m : Nat) : Prop := ∃ d, HvAt w q d ∧ d.L.length = m
theorem LenBox.step {w w' : World} {q : HvP} {m : Nat} (h : LenBox w q m) (hO : Only [q.b, q.g] w w') (hs : ∃ s, ShAt w' q.b q.g s) : LenBox w' q m := by
  obtain ⟨d, h1, h2⟩ := h
  obtain ⟨s, hs⟩ := hs
  exact ⟨_, hv_shelf h1 hO hs, h2⟩
theorem LenBox.len {w : World} {q : HvP} {m : Nat} (h : LenBox w q m) : Calls Tryd.prog 26 #[.pointer (some ⟨q.p, 0, none⟩)] w fun r w' => r = .returned (.int .i64 m) ∧ w = w' := by
  obtain ⟨d, h1, h2⟩ := h
  rw [← h2]
  exact hlen_any q d w h1
theorem LenBox.below {w w' : World} {q : HvP} {m : Nat} (h : LenBox w q m) (hb : Below w.heap.size w w') : LenBox w' q m := by
  obtain ⟨d, h1, h2⟩ := h
  exact ⟨d, h1.below hb, h2⟩
theorem PBox.sh {K : List Int} {w : World} {q : HvP} {n k : Nat} {A : Bool} {C Kp : List (List UInt8)} {S : List Nat} (h : PBox K w q n k A C Kp S) : ∃ s, ShAt w q.b q.g s := by
  obtain ⟨d, h1, -⟩ := h
  exact ⟨_, h1.sh⟩
theorem DOff.sh {K : List Int} {w : World} {b g n k : Nat} {C Kp : List (List UInt8)} (h : DOff K w b g n k C Kp) : ∃ s, ShAt w b g s := by
  obtain ⟨s, h1, -⟩ := h
  exact ⟨s, h1⟩
theorem DOn.sh {K : List Int} {w : World} {b g n k : Nat} {C Kp : List (List UInt8)} (h : DOn K w b g n k C Kp) : ∃ s, ShAt w b g s := by
  obtain ⟨s, h1, -⟩ := h
  exact ⟨s, h1⟩
theorem AgI.same {ds : List ActH} {i : Nat} {C C' : List (List UInt8)} (h : AgI ds i C) (h1 : ∀ r ∈ C', r ∈ C) (h2 : ∀ r ∈ C, r ∈ C') (hl : C'.length = C.length) : AgI ds i C' :=
  ⟨by rw [hl]; exact h.len, fun r hr => h.src r (h1 r hr), fun j hj hji hk hl2 => h2 _ (h.all j hj hji hk hl2)⟩
end Go.Proofs.YteihfoacdocgkaaDoor
