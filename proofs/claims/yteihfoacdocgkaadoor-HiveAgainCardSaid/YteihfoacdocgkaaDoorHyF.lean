/-
  Layer 5's laws: what is put twice, at a store with room whose power stays; plain.
-/
import Derived.Test.YteihfoacdocgkaaDoorHyE
set_option linter.unusedVariables false
set_option linter.unusedSimpArgs false
namespace Go.Proofs.YteihfoacdocgkaaDoor
open Go.RowKit Pl Sh

def namedB (K : List Int) (b : Bool) (id row : List UInt8) : Bool := decide (rowS K row = some (b, id, row))
def recA (K : List Int) (C : List (List UInt8)) (r : RecD) : Int × List (List UInt8) :=
  if isRecS r = true then (match C.find? (namedB K false r.key) with
    | some row => (if row = recRowS r then 0 else 21, C)
    | none => (0, C ++ [recRowS r])) else (1, C)
def blobA (K : List Int) (C : List (List UInt8)) (b : List UInt8) : Int × List (List UInt8) :=
  if 512 < b.length then (33, C) else match C.find? (namedB K true (hashB K b)) with
    | some _ => (0, C)
    | none => (0, C ++ [blobRowS b])
theorem find_named {K : List Int} {C : List (List UInt8)} {b : Bool} {id : List UInt8} : (∃ row, C.find? (namedB K b id) = some row ∧ row ∈ C ∧ rowS K row = some (b, id, row)) ∨ (C.find? (namedB K b id) = none ∧ ∀ row ∈ C, rowS K row ≠ some (b, id, row)) := by
  cases h : C.find? (namedB K b id) with
  | some row =>
    have h1 := List.find?_some h
    have h2 := List.mem_of_find?_eq_some h
    exact .inl ⟨row, rfl, h2, of_decide_eq_true h1⟩
  | none =>
    refine .inr ⟨rfl, fun row hr he => ?_⟩
    have := List.find?_eq_none.1 h row hr
    exact this (by unfold namedB; exact decide_eq_true he)
theorem named_one {K : List Int} {C : List (List UInt8)} (h : RowsOk K C) {b : Bool} {id r1 r2 : List UInt8} (h1 : r1 ∈ C) (h2 : r2 ∈ C) (e1 : rowS K r1 = some (b, id, r1)) (e2 : rowS K r2 = some (b, id, r2)) : r1 = r2 := by
  refine Classical.byContradiction fun hne => ?_
  exact pw_sym (fun x y h b id h1 h2 => h b id h2 h1) h.names r1 h1 r2 h2 hne b id e1 e2
theorem recA_again {K : List Int} {C : List (List UInt8)} {r : RecD} (hf : r.Fit) : recA K (recA K C r).2 r = recA K C r := by
  by_cases hi : isRecS r = true
  · rcases find_named (K := K) (C := C) (b := false) (id := r.key) with ⟨row, e1, e2, e3⟩ | ⟨e1, e2⟩
    · have h : recA K C r = (if row = recRowS r then 0 else 21, C) := by unfold recA; rw [if_pos hi, e1]
      rw [h]; exact h
    · have h : recA K C r = (0, C ++ [recRowS r]) := by unfold recA; rw [if_pos hi, e1]
      rw [h]
      have h2 : (C ++ [recRowS r]).find? (namedB K false r.key) = some (recRowS r) := by
        rw [List.find?_append, e1]
        have : namedB K false r.key (recRowS r) = true := decide_eq_true (rowS_of_rec K r hf hi)
        simp [this]
      unfold recA
      rw [if_pos hi, h2]
      simp
  · have h : recA K C r = (1, C) := by unfold recA; rw [if_neg hi]
    rw [h]; exact h
theorem recA_er (K : List Int) (C : List (List UInt8)) (r : RecD) : (recA K C r).1 = 0 ∨ (recA K C r).1 = 1 ∨ (recA K C r).1 = 21 := by
  unfold recA
  split
  · split
    · split
      · exact .inl rfl
      · exact .inr (.inr rfl)
    · exact .inl rfl
  · exact .inr (.inl rfl)
theorem blobA_again {K : List Int} {C : List (List UInt8)} {b : List UInt8} : blobA K (blobA K C b).2 b = blobA K C b := by
  by_cases hb : 512 < b.length
  · have h : blobA K C b = (33, C) := by unfold blobA; rw [if_pos hb]
    rw [h]; exact h
  · rcases find_named (K := K) (C := C) (b := true) (id := hashB K b) with ⟨row, e1, e2, e3⟩ | ⟨e1, e2⟩
    · have h : blobA K C b = (0, C) := by unfold blobA; rw [if_neg hb, e1]
      rw [h]; exact h
    · have h : blobA K C b = (0, C ++ [blobRowS b]) := by unfold blobA; rw [if_neg hb, e1]
      rw [h]
      have h2 : (C ++ [blobRowS b]).find? (namedB K true (hashB K b)) = some (blobRowS b) := by
        rw [List.find?_append, e1]
        have : namedB K true (hashB K b) (blobRowS b) = true := decide_eq_true (rowS_of_blob K b (by omega))
        simp [this]
      unfold blobA
      rw [if_neg hb, h2]
theorem blobA_er (K : List Int) (C : List (List UInt8)) (b : List UInt8) : (blobA K C b).1 = if b.length ≤ 512 then 0 else 33 := by
  unfold blobA
  by_cases hb : 512 < b.length
  · rw [if_pos hb, if_neg (by omega)]
  · rw [if_neg hb, if_pos (by omega)]
    split <;> rfl
/-- PutBlob while the power stays -/
theorem a_putblob (K : List Int) (q : HvP) (n k : Nat) (C Kp : List (List UInt8)) (S : List Nat) (b : List UInt8) (w : World) (h : PBox K w q n (k + 1) false C Kp S) (hL : Laid K w) (h0 : 0 ∉ S) (hn : n ≤ 128) (hlt : C.length < n) :
    Calls Tryd.prog 23 #[.pointer (some ⟨q.p, 0, none⟩), .string ⟨b.toArray⟩] w fun r w' =>
      r = .returned (.tuple #[.agg (digV (if (blobA K C b).1 = 0 then hashB K b else List.replicate 32 0)), .int .i64 (blobA K C b).1]) ∧ ∃ S', PBox K w' q n k false (blobA K C b).2 Kp S' ∧ Only S w w' ∧ ∀ x ∈ S', x ∈ S ∨ w.heap.size ≤ x := by
  refine (p_putblob K q n k false C Kp S b w h hL h0 hn hlt).mono ?_
  rintro r w' (⟨hb, rfl, hx, hO⟩ | ⟨hb, ⟨row, r1, r2⟩, rfl, hx, hO⟩ | ⟨hb, hno, er, rfl, hO, h3⟩)
  · have e : blobA K C b = (33, C) := by unfold blobA; rw [if_pos hb]
    rw [e]
    exact ⟨rfl, S, hx, hO, fun x hx => .inl hx⟩
  · have e : blobA K C b = (0, C) := by
      unfold blobA
      rw [if_neg (by omega)]
      rcases find_named (K := K) (C := C) (b := true) (id := hashB K b) with ⟨row', e1, -⟩ | ⟨-, e2⟩
      · rw [e1]
      · exact absurd r2 (e2 row r1)
    rw [e]
    exact ⟨rfl, S, hx, hO, fun x hx => .inl hx⟩
  · have e : blobA K C b = (0, C ++ [blobRowS b]) := by
      unfold blobA
      rw [if_neg (by omega)]
      rcases find_named (K := K) (C := C) (b := true) (id := hashB K b) with ⟨row', -, e2, e3⟩ | ⟨e1, -⟩
      · exact absurd e3 (hno row' e2)
      · rw [e1]
    rw [e]
    rcases h3 with ⟨rfl, S', h5, h6⟩ | ⟨-, h7, -⟩
    · exact ⟨rfl, S', h5, hO, h6⟩
    · cases h7
/-- PutRecord while the power stays -/
theorem a_putrec (K : List Int) (q : HvP) (n k : Nat) (C Kp : List (List UInt8)) (S : List Nat) (r : RecD) (w : World) (h : PBox K w q n (k + 1) false C Kp S) (hL : Laid K w) (h0 : 0 ∉ S) (hn : n ≤ 128) (hlt : C.length < n) (hf : r.Fit) :
    Calls Tryd.prog 31 #[.pointer (some ⟨q.p, 0, none⟩), .agg r.row] w fun x w' =>
      x = .returned (.int .i64 (recA K C r).1) ∧ ∃ S', PBox K w' q n k false (recA K C r).2 Kp S' ∧ Only S w w' ∧ ∀ x ∈ S', x ∈ S ∨ w.heap.size ≤ x := by
  have hrows := h.rows
  refine (p_putrec K q n k false C Kp S r w h hL h0 hn hlt hf).mono ?_
  rintro x w' ⟨er, rfl, ⟨rfl, hi, hx, hO⟩ | ⟨hi, ⟨row, r1, r2, rfl⟩, hx, hO⟩ | ⟨hi, hno, hO, h3⟩⟩
  · have e : recA K C r = (1, C) := by unfold recA; rw [if_neg (by rw [hi]; simp)]
    rw [e]
    exact ⟨rfl, S, hx, hO, fun x hx => .inl hx⟩
  · have e : recA K C r = (if row = recRowS r then 0 else 21, C) := by
      unfold recA
      rw [if_pos hi]
      rcases find_named (K := K) (C := C) (b := false) (id := r.key) with ⟨row', e1, e2, e3⟩ | ⟨-, e2⟩
      · rw [e1, named_one hrows e2 r1 e3 r2]
      · exact absurd r2 (e2 row r1)
    rw [e]
    exact ⟨rfl, S, hx, hO, fun x hx => .inl hx⟩
  · have e : recA K C r = (0, C ++ [recRowS r]) := by
      unfold recA
      rw [if_pos hi]
      rcases find_named (K := K) (C := C) (b := false) (id := r.key) with ⟨row', -, e2, e3⟩ | ⟨e1, -⟩
      · exact absurd e3 (hno row' e2)
      · rw [e1]
    rw [e]
    rcases h3 with ⟨rfl, S', h5, h6⟩ | ⟨-, h7, -⟩
    · exact ⟨rfl, S', h5, hO, h6⟩
    · cases h7
/-- the rows of a store behind i calls -/
structure AgI (ds : List ActH) (i : Nat) (C : List (List UInt8)) : Prop where
  len : C.length ≤ i
  src : ∀ r ∈ C, (∃ (j : Nat) (h : j < ds.length), j < 70 ∧ ds[j].text.length ≤ 512 ∧ r = blobRowS ds[j].text) ∨ (∃ x : RecD, x.Fit ∧ isRecS x = true ∧ r = recRowS x)
  all : ∀ (j : Nat) (h : j < ds.length), j < i → ds[j].kind ≠ 2 → ds[j].text.length ≤ 512 → blobRowS ds[j].text ∈ C
theorem agI_start (ds : List ActH) : AgI ds 0 [] := ⟨Nat.zero_le _, (fun r hr => by cases hr), fun j h hj => by omega⟩
theorem AgI.record {K : List Int} {ds : List ActH} {i : Nat} {C : List (List UInt8)} {r : RecD} (h : AgI ds i C) (hf : r.Fit) (hi : i < ds.length) (hk : ds[i].kind = 2) : AgI ds (i + 1) (recA K C r).2 := by
  have hsame : AgI ds (i + 1) C := ⟨by have := h.len; omega, h.src, fun j hj hji hk2 hl => by
    by_cases e : j = i
    · subst e; exact absurd hk hk2
    · exact h.all j hj (by omega) hk2 hl⟩
  unfold recA
  split
  · rename_i hrs
    split
    · exact hsame
    · refine ⟨by have := h.len; rw [List.length_append]; simp; omega, fun x hx => ?_, fun j hj hji hk2 hl => List.mem_append_left _ (hsame.all j hj hji hk2 hl)⟩
      rcases List.mem_append.1 hx with hx | hx
      · exact h.src x hx
      · simp only [List.mem_singleton] at hx
        exact .inr ⟨r, hf, hrs, hx⟩
  · exact hsame
/-- no two of the texts have one digest -/
def InjT (K : List Int) (ds : List ActH) : Prop := ∀ (i j : Nat) (hi : i < ds.length) (hj : j < ds.length), i < 70 → j < 70 → hashB K ds[i].text = hashB K ds[j].text → ds[i].text = ds[j].text
theorem injT_of {K : List Int} {ds : List ActH} {ls : List (List UInt8)} (ha : AloneH K ls ls.length) (hin : ∀ (j : Nat) (h : j < ds.length), j < 70 → ds[j].text ∈ ls) : InjT K ds := by
  intro i j hi hj hi7 hj7 hxy
  obtain ⟨a, ha1, ea⟩ := List.getElem_of_mem (hin i hi hi7)
  obtain ⟨b, hb1, eb⟩ := List.getElem_of_mem (hin j hj hj7)
  rw [getD_getH ha1] at ea
  rw [getD_getH hb1] at eb
  refine Classical.byContradiction fun hne => ?_
  rcases Nat.lt_trichotomy a b with h | h | h
  · exact ha b hb1 a h (by rw [ea, eb]; exact fun e => hne e.symm) (by rw [ea, eb]; exact hxy.symm)
  · subst h; exact hne (by rw [← ea, ← eb])
  · exact ha a ha1 b h (by rw [ea, eb]; exact hne) (by rw [ea, eb]; exact hxy)
theorem AgI.row {K : List Int} {ds : List ActH} {i j : Nat} {C : List (List UInt8)} {row : List UInt8} (h : AgI ds i C) (hinj : InjT K ds) (hj : j < ds.length) (hj7 : j < 70) (hr : row ∈ C) (he : rowS K row = some (true, hashB K ds[j].text, row)) : ds[j].text.length ≤ 512 ∧ row = blobRowS ds[j].text := by
  rcases h.src row hr with ⟨l, hl, hl7, hb, rfl⟩ | ⟨x, hf, hi, rfl⟩
  · rw [rowS_of_blob K _ hb] at he
    simp only [Option.some.injEq, Prod.mk.injEq, true_and, and_true] at he
    have := hinj l j hl hj hl7 hj7 he
    rw [← this]
    exact ⟨hb, rfl⟩
  · rw [rowS_of_rec K x hf hi] at he
    simp at he
theorem AgI.blob {K : List Int} {ds : List ActH} {i : Nat} {C : List (List UInt8)} (h : AgI ds i C) (hinj : InjT K ds) (hi : i < ds.length) (hi7 : i < 70) : AgI ds (i + 1) (blobA K C ds[i].text).2 := by
  unfold blobA
  split
  · rename_i hb
    exact ⟨by have := h.len; show C.length ≤ i + 1; omega, h.src, fun j hj hji hk2 hl => by
      by_cases e : j = i
      · subst e; omega
      · exact h.all j hj (by omega) hk2 hl⟩
  · rename_i hb
    rcases find_named (K := K) (C := C) (b := true) (id := hashB K ds[i].text) with ⟨row, e1, e2, e3⟩ | ⟨e1, e2⟩
    · rw [e1]
      refine ⟨by have := h.len; show C.length ≤ i + 1; omega, h.src, fun j hj hji hk2 hl => ?_⟩
      by_cases e : j = i
      · subst e
        rw [← (h.row hinj hi hi7 e2 e3).2]; exact e2
      · exact h.all j hj (by omega) hk2 hl
    · rw [e1]
      refine ⟨by have := h.len; show (C ++ _).length ≤ i + 1; rw [List.length_append]; simp; omega, fun x hx => ?_, fun j hj hji hk2 hl => ?_⟩
      · rcases List.mem_append.1 hx with hx | hx
        · exact h.src x hx
        · simp only [List.mem_singleton] at hx
          exact .inl ⟨i, hi, hi7, by omega, hx⟩
      · by_cases e : j = i
        · subst e; show _ ∈ C ++ _; simp
        · exact List.mem_append_left _ (h.all j hj (by omega) hk2 hl)
theorem nodup_sub_len {α : Type} [DecidableEq α] : ∀ {l1 l2 : List α}, l1.Nodup → (∀ x ∈ l1, x ∈ l2) → l1.length ≤ l2.length
  | [], l2, _, _ => Nat.zero_le _
  | a :: l, l2, h, hs => by
    obtain ⟨h1, h2⟩ := List.nodup_cons.1 h
    have ha : a ∈ l2 := hs a (by simp)
    have := nodup_sub_len (l2 := l2.erase a) h2 (fun x hx => (List.mem_erase_of_ne (fun e : x = a => h1 (by rw [← e]; exact hx))).2 (hs x (by simp [hx])))
    rw [List.length_erase_of_mem ha] at this
    have hp : 0 < l2.length := List.length_pos_of_mem ha
    simp only [List.length_cons]
    omega
/-- two stores with the same rows are of one size -/
theorem rows_same_len {K : List Int} {C C' : List (List UInt8)} (h : RowsOk K C) (h' : RowsOk K C') (h1 : ∀ r ∈ C', r ∈ C) (h2 : ∀ r ∈ C, r ∈ C') : C'.length = C.length := by
  have nd : ∀ D, RowsOk K D → D.Nodup := fun D hD => by
    have := hD.names
    refine List.Pairwise.imp_of_mem (fun {x y} hx hy hne => ?_) this
    rintro rfl
    obtain ⟨b, id, e, -⟩ := hD.row x hx
    exact hne b id e e
  have a := nodup_sub_len (nd C h) h2
  have b := nodup_sub_len (nd C' h') h1
  omega
end Go.Proofs.YteihfoacdocgkaaDoor
