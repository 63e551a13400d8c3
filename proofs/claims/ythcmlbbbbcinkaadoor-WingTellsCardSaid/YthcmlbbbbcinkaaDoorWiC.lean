/-
  Layer 19 (wing), plain: frames as values, when they are good, their texts; the reading of texts as a run of states. Layer 19 (wing), plain: a good frame's texts are read as that frame. Layer 19 (wing), plain: one form; how long a frame's bytes are; what is read of bytes.
-/
import Derived.Test.YthcmlbbbbcinkaaDoorFmA
set_option linter.unusedVariables false
set_option linter.unusedSimpArgs false
namespace Go.Proofs.YthcmlbbbbcinkaaDoor
open Go.RowKit Pl
namespace Wi

abbrev Bs := List UInt8
structure Mb where
  node : Int
  inc : Int
  state : Int
  deriving DecidableEq
structure Rg where
  depth : Int
  pre : Int
  count : Int
  sum : Bs
  deriving DecidableEq
structure Rc where
  key : Bs
  code : Int
  out : Bs
  deriving DecidableEq
structure Fm where
  kind : Int
  from_ : Int
  seq : Int
  node : Int
  key : Bs
  found : Bool
  rcd : Rc
  out : Bs
  at_ : Int
  data : Bs
  haze : Bs
  whole : Bs
  size : Int
  parts : List Bs
  rngs : List Rg
  items : List Rc
  mems : List Mb
  deriving DecidableEq
def z32 : Bs := List.replicate 32 0
def zRc : Rc := ⟨z32, 0, z32⟩
def zFm : Fm := ⟨0, 0, 0, 0, z32, false, zRc, z32, 0, [], List.replicate 64 0, z32, 0, [], [], [], []⟩
def I64 (n : Int) : Prop := -9223372036854775808 ≤ n ∧ n ≤ 9223372036854775807
def inB (n lo hi : Int) : Bool := decide (lo ≤ n) && decide (n ≤ hi)
def isNode (n : Int) : Bool := inB n 1 6
def goodMb (m : Mb) : Bool := inB m.node 1 6 && inB m.inc 0 1073741824 && inB m.state 0 3
def isPlace (d p : Int) : Bool := inB d 0 8 && decide (0 ≤ p) && decide (p < 2 ^ (2 * d.toNat))
def goodRg (r : Rg) : Bool := isPlace r.depth r.pre && inB r.count 0 1048576
def isRc (r : Rc) : Bool := inB r.code 0 99 && (decide (r.code = 0) || r.out == z32)
structure Rc.Wf (r : Rc) : Prop where
  k : r.key.length = 32
  o : r.out.length = 32
  c : I64 r.code
structure Rg.Wf (r : Rg) : Prop where
  d : I64 r.depth
  p : I64 r.pre
  c : I64 r.count
  s : r.sum.length = 32
structure Mb.Wf (m : Mb) : Prop where
  n : I64 m.node
  i : I64 m.inc
  s : I64 m.state
structure Fm.Wf (f : Fm) : Prop where
  kind : I64 f.kind
  from_ : I64 f.from_
  seq : I64 f.seq
  node : I64 f.node
  key : f.key.length = 32
  rcd : f.rcd.Wf
  out : f.out.length = 32
  at_ : I64 f.at_
  data : f.data.length ≤ maxLen
  haze : f.haze.length = 64
  whole : f.whole.length = 32
  size : I64 f.size
  parts : ∀ d ∈ f.parts, d.length = 32
  np : f.parts.length ≤ maxLen
  rngs : ∀ r ∈ f.rngs, r.Wf
  nr : f.rngs.length ≤ maxLen
  items : ∀ r ∈ f.items, r.Wf
  ni : f.items.length ≤ maxLen
  mems : ∀ m ∈ f.mems, m.Wf
  nm : f.mems.length ≤ maxLen
/-- a frame with what its kind has alone -/
def bare (f : Fm) : Fm :=
  if f.kind = 1 then { zFm with kind := f.kind, from_ := f.from_, mems := f.mems, seq := f.seq }
  else if f.kind = 2 then { zFm with kind := f.kind, from_ := f.from_, mems := f.mems, seq := f.seq, node := f.node, haze := f.haze }
  else if f.kind = 3 then { zFm with kind := f.kind, from_ := f.from_, mems := f.mems, seq := f.seq, node := f.node }
  else if f.kind = 4 then { zFm with kind := f.kind, from_ := f.from_, mems := f.mems, key := f.key }
  else if f.kind = 5 then (if f.found = true then { zFm with kind := f.kind, from_ := f.from_, mems := f.mems, key := f.key, found := f.found, node := f.node, rcd := f.rcd } else { zFm with kind := f.kind, from_ := f.from_, mems := f.mems, key := f.key, found := f.found })
  else if f.kind = 6 then { zFm with kind := f.kind, from_ := f.from_, mems := f.mems, out := f.out, at_ := f.at_ }
  else if f.kind = 7 then { zFm with kind := f.kind, from_ := f.from_, mems := f.mems, whole := f.whole, size := f.size, parts := f.parts }
  else if f.kind = 8 then { zFm with kind := f.kind, from_ := f.from_, mems := f.mems, out := f.out, at_ := f.at_, data := f.data }
  else if f.kind = 9 then { zFm with kind := f.kind, from_ := f.from_, mems := f.mems, rngs := f.rngs }
  else if f.kind = 10 then { zFm with kind := f.kind, from_ := f.from_, mems := f.mems, items := f.items, rngs := f.rngs }
  else { zFm with kind := f.kind, from_ := f.from_, mems := f.mems }
def all {α : Type} (l : List α) (most : Nat) (g : α → Bool) : Bool := decide (l.length ≤ most) && l.all g
def fits (f : Fm) : Bool :=
  if f.kind = 1 then inB f.seq 0 1099511627776
  else if f.kind = 2 ∨ f.kind = 3 then inB f.seq 0 1099511627776 && isNode f.node
  else if f.kind = 4 then true
  else if f.kind = 5 then (!f.found || (isNode f.node && (f.rcd.key == f.key && isRc f.rcd)))
  else if f.kind = 6 then inB f.at_ (-1) 7
  else if f.kind = 7 then goodS f.size f.parts.length
  else if f.kind = 8 then inB f.at_ 0 7 && decide (f.data.length ≤ 64)
  else if f.kind = 9 ∨ f.kind = 10 then all f.items 16 isRc && all f.rngs 16 goodRg
  else false
def good (f : Fm) : Bool := isNode f.from_ && (all f.mems 6 goodMb && (fits f && decide (f = bare f)))

/-! ### texts -/
def recT (r : Rc) : Bs := r.key ++ num r.code ++ r.out
def rngT (r : Rg) : Bs := num r.depth ++ num r.pre ++ num r.count ++ r.sum
def memT (m : Mb) : Bs := num m.node ++ num m.inc ++ num m.state
def join {α : Type} (l : List α) (t : α → Bs) : Bs := (l.map t).flatten
def maniT (f : Fm) : Bs := srow [f.whole, num f.size, f.parts.flatten]
def fields (f : Fm) : List Bs :=
  if f.kind = 1 then [num f.seq]
  else if f.kind = 2 then [num f.seq, num f.node, f.haze]
  else if f.kind = 3 then [num f.seq, num f.node]
  else if f.kind = 4 then [f.key]
  else if f.kind = 5 then (if f.found = true then [f.key, num 1, num f.node, recT f.rcd] else [f.key, num 0])
  else if f.kind = 6 then [f.out, num f.at_]
  else if f.kind = 7 then [maniT f]
  else if f.kind = 8 then [f.out, num f.at_, f.data]
  else if f.kind = 9 then [join f.rngs rngT]
  else [join f.items recT, join f.rngs rngT]
def texts (f : Fm) : List Bs := [num f.kind, num f.from_, join f.mems memT] ++ fields f
def row (f : Fm) : Bs := srow (texts f)
def enc (K : List Int) (f : Fm) : Bs := hashB K (row f) ++ row f

/-! ### the reading, as a run of states -/
structure St where
  s : Bs
  bad : Bool
  rest : List Bs
def numS (p : St) : Int × St := match rdNum p.s with
  | some (n, r) => (n, { p with s := r })
  | none => (0, { p with s := [], bad := true })
def digS (p : St) : Bs × St := if p.s.length < 32 then (z32, { p with s := [], bad := true }) else (p.s.take 32, { p with s := p.s.drop 32 })
def nextS (p : St) : St := match p.rest with
  | [] => { p with s := [], bad := true }
  | t :: r => { p with s := t, rest := r }
def endS (p : St) : St := { p with bad := p.bad || decide (p.s ≠ []) }
def oneS (p : St) : Int × St := ((numS (nextS p)).1, endS (numS (nextS p)).2)
def keyS (p : St) : Bs × St := ((digS (nextS p)).1, endS (digS (nextS p)).2)
def recS (p : St) : Rc × St :=
  let a := digS p
  let b := numS a.2
  let c := digS b.2
  (⟨a.1, b.1, c.1⟩, c.2)
def rngS (p : St) : Rg × St :=
  let a := numS p
  let b := numS a.2
  let c := numS b.2
  let d := digS c.2
  (⟨a.1, b.1, c.1, d.1⟩, d.2)
def memS (p : St) : Mb × St :=
  let a := numS p
  let b := numS a.2
  let c := numS b.2
  (⟨a.1, b.1, c.1⟩, c.2)
def loopS {α : Type} (one : St → α × St) : Nat → List α → St → List α × St
  | 0, o, p => (o, p)
  | n + 1, o, p => if p.s = [] ∨ p.bad = true then (o, p) else loopS one n (o ++ [(one p).1]) (one p).2
def listS {α : Type} (one : St → α × St) (most : Nat) (p : St) : List α × St := loopS one (most + 1) [] (nextS p)
def hazeOf (s : Bs) : Bs := s.take 64 ++ List.replicate (64 - s.length) 0
def hazeS (p : St) : Bs × St := (hazeOf (nextS p).s, { nextS p with bad := (nextS p).bad || decide ((nextS p).s.length ≠ 64) })
def foundS (p : St) : Bool × St := (decide ((oneS p).1 = 1), { (oneS p).2 with bad := (oneS p).2.bad || !inB (oneS p).1 0 1 })
/-- a manifest that has these bytes -/
def ManiIs (s : Bs) (m : Bs × Int × List Bs) : Prop := s = srow [m.1, num m.2.1, m.2.2.flatten] ∧ m.1.length = 32 ∧ I64 m.2.1 ∧ (∀ d ∈ m.2.2, d.length = 32) ∧ goodS m.2.1 m.2.2.length = true
open Classical in
noncomputable def maniOf (s : Bs) : Option (Bs × Int × List Bs) := if h : ∃ m, ManiIs s m then some h.choose else none
noncomputable def maniS (p : St) : (Bs × Int × List Bs) × St := match maniOf (nextS p).s with
  | some m => (m, nextS p)
  | none => ((z32, 0, []), { nextS p with bad := true })
noncomputable def bodyS (f : Fm) (p : St) : Fm × St :=
  if f.kind = 1 then
    let a := oneS p
    ({ f with seq := a.1 }, a.2)
  else if f.kind = 2 then
    let a := oneS p
    let b := oneS a.2
    let c := hazeS b.2
    ({ f with seq := a.1, node := b.1, haze := c.1 }, c.2)
  else if f.kind = 3 then
    let a := oneS p
    let b := oneS a.2
    ({ f with seq := a.1, node := b.1 }, b.2)
  else if f.kind = 4 then
    let a := keyS p
    ({ f with key := a.1 }, a.2)
  else if f.kind = 5 then
    let a := keyS p
    let b := foundS a.2
    if b.1 = true then
      let c := oneS b.2
      let d := recS (nextS c.2)
      ({ f with key := a.1, found := true, node := c.1, rcd := d.1 }, endS d.2)
    else ({ f with key := a.1, found := false }, b.2)
  else if f.kind = 6 then
    let a := keyS p
    let b := oneS a.2
    ({ f with out := a.1, at_ := b.1 }, b.2)
  else if f.kind = 7 then
    let a := maniS p
    ({ f with whole := a.1.1, size := a.1.2.1, parts := a.1.2.2 }, a.2)
  else if f.kind = 8 then
    let a := keyS p
    let b := oneS a.2
    ({ f with out := a.1, at_ := b.1, data := (nextS b.2).s }, nextS b.2)
  else if f.kind = 9 then
    let a := listS rngS 16 p
    ({ f with rngs := a.1 }, a.2)
  else if f.kind = 10 then
    let a := listS recS 16 p
    let b := listS rngS 16 a.2
    ({ f with items := a.1, rngs := b.1 }, b.2)
  else (f, p)
noncomputable def decS (l : List Bs) : Fm × St :=
  let a := oneS ⟨[], false, l⟩
  let b := oneS a.2
  let c := listS memS 6 b.2
  bodyS { zFm with kind := a.1, from_ := b.1, mems := c.1 } c.2

/-! ### what is read without a fault was written so -/
theorem num_ok {p : St} (h : (numS p).2.bad = false) : p.bad = false ∧ p.s = num (numS p).1 ++ (numS p).2.s ∧ (numS p).2.rest = p.rest := by
  unfold numS at h ⊢
  cases hr : rdNum p.s with
  | none => rw [hr] at h; simp at h
  | some x =>
    obtain ⟨n, r⟩ := x
    rw [hr] at h
    exact ⟨h, (num_of_rd hr).symm, rfl⟩
theorem dig_ok {p : St} (h : (digS p).2.bad = false) : p.bad = false ∧ p.s = (digS p).1 ++ (digS p).2.s ∧ (digS p).2.rest = p.rest ∧ (digS p).1.length = 32 := by
  unfold digS at h ⊢
  by_cases hl : p.s.length < 32
  · rw [if_pos hl] at h; simp at h
  · rw [if_neg hl] at h ⊢
    exact ⟨h, (List.take_append_drop 32 p.s).symm, rfl, by simp; omega⟩
theorem next_ok {p : St} (h : (nextS p).bad = false) : p.bad = false ∧ p.rest = (nextS p).s :: (nextS p).rest := by
  unfold nextS at h ⊢
  cases hr : p.rest with
  | nil => rw [hr] at h; simp at h
  | cons t r => rw [hr] at h; exact ⟨h, rfl⟩
theorem end_ok {p : St} (h : (endS p).bad = false) : p.bad = false ∧ p.s = [] ∧ (endS p).rest = p.rest ∧ (endS p).s = [] := by
  unfold endS at h ⊢
  simp only [Bool.or_eq_false_iff, decide_eq_false_iff_not, ne_eq, Decidable.not_not] at h
  exact ⟨h.1, h.2, rfl, h.2⟩
theorem one_ok {p : St} (h : (oneS p).2.bad = false) : p.bad = false ∧ p.rest = num (oneS p).1 :: (oneS p).2.rest := by
  unfold oneS at h ⊢
  obtain ⟨h1, h2, h3, -⟩ := end_ok h
  obtain ⟨h4, h5, h6⟩ := num_ok h1
  obtain ⟨h7, h8⟩ := next_ok h4
  refine ⟨h7, ?_⟩
  rw [h8, h5, h2, List.append_nil]
  show _ = _ :: (endS _).rest
  rw [h3, h6]
theorem key_ok {p : St} (h : (keyS p).2.bad = false) : p.bad = false ∧ p.rest = (keyS p).1 :: (keyS p).2.rest ∧ (keyS p).1.length = 32 := by
  unfold keyS at h ⊢
  obtain ⟨h1, h2, h3, -⟩ := end_ok h
  obtain ⟨h4, h5, h6, h9⟩ := dig_ok h1
  obtain ⟨h7, h8⟩ := next_ok h4
  refine ⟨h7, ?_, h9⟩
  rw [h8, h5, h2, List.append_nil]
  show _ = _ :: (endS _).rest
  rw [h3, h6]
theorem rec_ok {p : St} (h : (recS p).2.bad = false) : p.bad = false ∧ p.s = recT (recS p).1 ++ (recS p).2.s ∧ (recS p).2.rest = p.rest := by
  obtain ⟨h1, h2, h3, -⟩ := dig_ok (p := (numS (digS p).2).2) h
  obtain ⟨h4, h5, h6⟩ := num_ok h1
  obtain ⟨h7, h8, h9, -⟩ := dig_ok h4
  refine ⟨h7, ?_, (h3.trans h6).trans h9⟩
  show p.s = ((digS p).1 ++ num (numS (digS p).2).1 ++ (digS (numS (digS p).2).2).1) ++ (digS (numS (digS p).2).2).2.s
  rw [List.append_assoc, List.append_assoc, ← h2, ← h5, ← h8]
theorem mem_ok {p : St} (h : (memS p).2.bad = false) : p.bad = false ∧ p.s = memT (memS p).1 ++ (memS p).2.s ∧ (memS p).2.rest = p.rest := by
  obtain ⟨h1, h2, h3⟩ := num_ok (p := (numS (numS p).2).2) h
  obtain ⟨h4, h5, h6⟩ := num_ok h1
  obtain ⟨h7, h8, h9⟩ := num_ok h4
  refine ⟨h7, ?_, (h3.trans h6).trans h9⟩
  show p.s = (num (numS p).1 ++ num (numS (numS p).2).1 ++ num (numS (numS (numS p).2).2).1) ++ (numS (numS (numS p).2).2).2.s
  rw [List.append_assoc, List.append_assoc, ← h2, ← h5, ← h8]
theorem rng_ok {p : St} (h : (rngS p).2.bad = false) : p.bad = false ∧ p.s = rngT (rngS p).1 ++ (rngS p).2.s ∧ (rngS p).2.rest = p.rest := by
  obtain ⟨h0, hd, hr, -⟩ := dig_ok (p := (numS (numS (numS p).2).2).2) h
  obtain ⟨h1, h2, h3⟩ := num_ok h0
  obtain ⟨h4, h5, h6⟩ := num_ok h1
  obtain ⟨h7, h8, h9⟩ := num_ok h4
  refine ⟨h7, ?_, ((hr.trans h3).trans h6).trans h9⟩
  show p.s = (num (numS p).1 ++ num (numS (numS p).2).1 ++ num (numS (numS (numS p).2).2).1 ++ (digS (numS (numS (numS p).2).2).2).1) ++ (digS (numS (numS (numS p).2).2).2).2.s
  rw [List.append_assoc, List.append_assoc, List.append_assoc, ← hd, ← h2, ← h5, ← h8]
theorem loop_ok {α : Type} {one : St → α × St} {t : α → Bs} (ho : ∀ p, (one p).2.bad = false → p.bad = false ∧ p.s = t (one p).1 ++ (one p).2.s ∧ (one p).2.rest = p.rest) :
    ∀ (n : Nat) (o : List α) (p : St), (loopS one n o p).2.bad = false → (loopS one n o p).1.length < o.length + n →
      p.bad = false ∧ (loopS one n o p).2.rest = p.rest ∧ ∃ o2, (loopS one n o p).1 = o ++ o2 ∧ p.s = join o2 t
  | 0, o, p, h, hl => by unfold loopS at hl; simp at hl
  | n + 1, o, p, h, hl => by
    unfold loopS at h hl ⊢
    by_cases hc : p.s = [] ∨ p.bad = true
    · rw [if_pos hc] at h hl ⊢
      have hb : p.bad = false := h
      rcases hc with hc | hc
      · exact ⟨hb, rfl, [], by simp, by rw [hc]; rfl⟩
      · rw [hb] at hc; cases hc
    · rw [if_neg hc] at h hl ⊢
      obtain ⟨h1, h2, o2, h3, h4⟩ := loop_ok ho n _ _ h (by rw [List.length_append]; simp only [List.length_singleton]; omega)
      obtain ⟨h5, h6, h7⟩ := ho p h1
      refine ⟨h5, h2.trans h7, (one p).1 :: o2, by rw [h3]; simp, ?_⟩
      rw [h6, h4]
      rfl
theorem list_ok {α : Type} {one : St → α × St} {t : α → Bs} (ho : ∀ p, (one p).2.bad = false → p.bad = false ∧ p.s = t (one p).1 ++ (one p).2.s ∧ (one p).2.rest = p.rest) {most : Nat} {p : St} (h : (listS one most p).2.bad = false) (hl : (listS one most p).1.length ≤ most) :
    p.bad = false ∧ p.rest = join (listS one most p).1 t :: (listS one most p).2.rest := by
  unfold listS at h hl ⊢
  obtain ⟨h1, h2, o2, h3, h4⟩ := loop_ok ho (most + 1) [] (nextS p) h (by simp only [List.length_nil]; omega)
  obtain ⟨h5, h6⟩ := next_ok h1
  refine ⟨h5, ?_⟩
  rw [h6, h4, h2, h3]
  rfl
theorem haze_ok {p : St} (h : (hazeS p).2.bad = false) : p.bad = false ∧ p.rest = (hazeS p).1 :: (hazeS p).2.rest ∧ (hazeS p).1.length = 64 := by
  unfold hazeS at h ⊢
  simp only [Bool.or_eq_false_iff, decide_eq_false_iff_not, ne_eq, Decidable.not_not] at h
  obtain ⟨h5, h6⟩ := next_ok h.1
  have e : hazeOf (nextS p).s = (nextS p).s := by unfold hazeOf; rw [h.2, Nat.sub_self, List.take_of_length_le (by omega)]; simp
  refine ⟨h5, ?_, by show (hazeOf _).length = 64; rw [e]; exact h.2⟩
  show p.rest = hazeOf _ :: (nextS p).rest
  rw [e]; exact h6
theorem found_ok {p : St} (h : (foundS p).2.bad = false) : p.bad = false ∧ p.rest = num (if (foundS p).1 = true then 1 else 0) :: (foundS p).2.rest := by
  unfold foundS at h ⊢
  simp only [Bool.or_eq_false_iff, Bool.not_eq_false'] at h
  obtain ⟨h1, h2⟩ := h
  obtain ⟨h3, h4⟩ := one_ok h1
  refine ⟨h3, ?_⟩
  unfold inB at h2
  simp only [Bool.and_eq_true, decide_eq_true_eq] at h2
  rw [h4]
  by_cases e : (oneS p).1 = 1
  · simp only [e, decide_true, if_true]
  · have e0 : (oneS p).1 = 0 := by omega
    simp only [e0]
    rfl
theorem mani_ok {p : St} (h : (maniS p).2.bad = false) : p.bad = false ∧ p.rest = srow [(maniS p).1.1, num (maniS p).1.2.1, (maniS p).1.2.2.flatten] :: (maniS p).2.rest := by
  unfold maniS at h ⊢
  cases hm : maniOf (nextS p).s with
  | none => rw [hm] at h; simp at h
  | some m =>
    rw [hm] at h
    have hn : (nextS p).bad = false := h
    obtain ⟨h5, h6⟩ := next_ok hn
    refine ⟨h5, ?_⟩
    unfold maniOf at hm
    split at hm
    · rename_i hex
      have := hex.choose_spec
      rw [Option.some.inj hm] at this
      show p.rest = srow [m.1, num m.2.1, m.2.2.flatten] :: (nextS p).rest
      rw [h6, this.1]
    · cases hm
theorem all_len {α : Type} {l : List α} {n : Nat} {g : α → Bool} (h : all l n g = true) : l.length ≤ n := by
  unfold all at h
  simp only [Bool.and_eq_true, decide_eq_true_eq] at h
  exact h.1
theorem body_ok {f : Fm} {p : St} (hb : (bodyS f p).2.bad = false) (hf : fits (bodyS f p).1 = true) :
    p.bad = false ∧ p.rest = fields (bodyS f p).1 ++ (bodyS f p).2.rest ∧ (bodyS f p).1.kind = f.kind ∧ (bodyS f p).1.from_ = f.from_ ∧ (bodyS f p).1.mems = f.mems := by
  unfold bodyS at hb hf ⊢
  by_cases k1 : f.kind = 1
  · rw [if_pos k1] at hb hf ⊢
    obtain ⟨h1, h2⟩ := one_ok hb
    refine ⟨h1, ?_, rfl, rfl, rfl⟩
    unfold fields
    rw [if_pos k1]
    exact h2
  rw [if_neg k1] at hb hf ⊢
  by_cases k2 : f.kind = 2
  · rw [if_pos k2] at hb hf ⊢
    obtain ⟨h1, h2, -⟩ := haze_ok (p := (oneS (oneS p).2).2) hb
    obtain ⟨h3, h4⟩ := one_ok h1
    obtain ⟨h5, h6⟩ := one_ok h3
    refine ⟨h5, ?_, rfl, rfl, rfl⟩
    unfold fields
    rw [if_neg k1, if_pos k2]
    show p.rest = num (oneS p).1 :: num (oneS (oneS p).2).1 :: (hazeS (oneS (oneS p).2).2).1 :: (hazeS (oneS (oneS p).2).2).2.rest
    rw [h6, h4, h2]
  rw [if_neg k2] at hb hf ⊢
  by_cases k3 : f.kind = 3
  · rw [if_pos k3] at hb hf ⊢
    obtain ⟨h3, h4⟩ := one_ok (p := (oneS p).2) hb
    obtain ⟨h5, h6⟩ := one_ok h3
    refine ⟨h5, ?_, rfl, rfl, rfl⟩
    unfold fields
    rw [if_neg k1, if_neg k2, if_pos k3]
    show p.rest = num (oneS p).1 :: num (oneS (oneS p).2).1 :: (oneS (oneS p).2).2.rest
    rw [h6, h4]
  rw [if_neg k3] at hb hf ⊢
  by_cases k4 : f.kind = 4
  · rw [if_pos k4] at hb hf ⊢
    obtain ⟨h1, h2, -⟩ := key_ok hb
    refine ⟨h1, ?_, rfl, rfl, rfl⟩
    unfold fields
    rw [if_neg k1, if_neg k2, if_neg k3, if_pos k4]
    exact h2
  rw [if_neg k4] at hb hf ⊢
  by_cases k5 : f.kind = 5
  · rw [if_pos k5] at hb hf ⊢
    by_cases kf : (foundS (keyS p).2).1 = true
    · simp only [if_pos kf] at hb hf ⊢
      obtain ⟨g1, g2, g3, -⟩ := end_ok (p := (recS (nextS (oneS (foundS (keyS p).2).2).2)).2) hb
      obtain ⟨g4, g5, g6⟩ := rec_ok g1
      obtain ⟨g7, g8⟩ := next_ok g4
      obtain ⟨h3, h4⟩ := one_ok g7
      obtain ⟨h5, h6⟩ := found_ok h3
      obtain ⟨h7, h8, -⟩ := key_ok h5
      refine ⟨h7, ?_, trivial, trivial, trivial⟩
      unfold fields
      simp only [if_neg k1, if_neg k2, if_neg k3, if_neg k4, if_pos k5, if_true]
      rw [if_pos kf] at h6
      rw [h8, h6, h4, g8, g5, g2, List.append_nil, g3, g6]
      rfl
    · simp only [if_neg kf] at hb hf ⊢
      obtain ⟨h5, h6⟩ := found_ok hb
      obtain ⟨h7, h8, -⟩ := key_ok h5
      refine ⟨h7, ?_, trivial, trivial, trivial⟩
      unfold fields
      simp only [if_neg k1, if_neg k2, if_neg k3, if_neg k4, if_pos k5, Bool.false_eq_true, if_false]
      rw [if_neg kf] at h6
      rw [h8, h6]
      rfl
  rw [if_neg k5] at hb hf ⊢
  by_cases k6 : f.kind = 6
  · rw [if_pos k6] at hb hf ⊢
    obtain ⟨h3, h4⟩ := one_ok (p := (keyS p).2) hb
    obtain ⟨h5, h6, -⟩ := key_ok h3
    refine ⟨h5, ?_, rfl, rfl, rfl⟩
    unfold fields
    simp only [if_neg k1, if_neg k2, if_neg k3, if_neg k4, if_neg k5, if_pos k6]
    rw [h6, h4]
    rfl
  rw [if_neg k6] at hb hf ⊢
  by_cases k7 : f.kind = 7
  · rw [if_pos k7] at hb hf ⊢
    obtain ⟨h3, h4⟩ := mani_ok hb
    refine ⟨h3, ?_, rfl, rfl, rfl⟩
    unfold fields
    simp only [if_neg k1, if_neg k2, if_neg k3, if_neg k4, if_neg k5, if_neg k6, if_pos k7]
    exact h4
  rw [if_neg k7] at hb hf ⊢
  by_cases k8 : f.kind = 8
  · rw [if_pos k8] at hb hf ⊢
    obtain ⟨h1, h2⟩ := next_ok (p := (oneS (keyS p).2).2) hb
    obtain ⟨h3, h4⟩ := one_ok h1
    obtain ⟨h5, h6, -⟩ := key_ok h3
    refine ⟨h5, ?_, rfl, rfl, rfl⟩
    unfold fields
    simp only [if_neg k1, if_neg k2, if_neg k3, if_neg k4, if_neg k5, if_neg k6, if_neg k7, if_pos k8]
    rw [h6, h4, h2]
    rfl
  rw [if_neg k8] at hb hf ⊢
  by_cases k9 : f.kind = 9
  · rw [if_pos k9] at hb hf ⊢
    have hl : (listS rngS 16 p).1.length ≤ 16 := by
      unfold fits at hf
      simp only [if_neg k1, k9, if_true, true_or, or_true, Bool.and_eq_true] at hf
      have := hf
      simp at this
      exact all_len this.2
    obtain ⟨h1, h2⟩ := list_ok (fun p => rng_ok) hb hl
    refine ⟨h1, ?_, rfl, rfl, rfl⟩
    unfold fields
    simp only [if_neg k1, if_neg k2, if_neg k3, if_neg k4, if_neg k5, if_neg k6, if_neg k7, if_neg k8, if_pos k9]
    exact h2
  rw [if_neg k9] at hb hf ⊢
  by_cases k10 : f.kind = 10
  · rw [if_pos k10] at hb hf ⊢
    have hl : (listS recS 16 p).1.length ≤ 16 ∧ (listS rngS 16 (listS recS 16 p).2).1.length ≤ 16 := by
      unfold fits at hf
      simp only [k10] at hf
      simp at hf
      exact ⟨all_len hf.1, all_len hf.2⟩
    obtain ⟨h1, h2⟩ := list_ok (p := (listS recS 16 p).2) (fun p => rng_ok) hb hl.2
    obtain ⟨h3, h4⟩ := list_ok (fun p => rec_ok) h1 hl.1
    refine ⟨h3, ?_, rfl, rfl, rfl⟩
    unfold fields
    simp only [if_neg k1, if_neg k2, if_neg k3, if_neg k4, if_neg k5, if_neg k6, if_neg k7, if_neg k8, if_neg k9]
    rw [h4, h2]
    rfl
  rw [if_neg k10] at hb hf ⊢
  exfalso
  unfold fits at hf
  simp [k1, k2, k3, k4, k5, k6, k7, k8, k9, k10] at hf
theorem good_parts {f : Fm} (h : good f = true) : isNode f.from_ = true ∧ all f.mems 6 goodMb = true ∧ fits f = true ∧ f = bare f := by
  unfold good at h
  simp only [Bool.and_eq_true, decide_eq_true_eq] at h
  exact h
theorem dec_ok {l : List Bs} (hb : (decS l).2.bad = false) (hr : (decS l).2.rest = []) (hg : good (decS l).1 = true) : l = texts (decS l).1 := by
  obtain ⟨g1, g2, g3, g4⟩ := good_parts hg
  unfold decS at hb hr g2 g3 ⊢
  obtain ⟨h1, h2, h3, h4, h5⟩ := body_ok hb g3
  simp only at h3 h4 h5
  rw [h5] at g2
  obtain ⟨h6, h7⟩ := list_ok (fun p => mem_ok) h1 (all_len g2)
  obtain ⟨h8, h9⟩ := one_ok h6
  obtain ⟨h10, h11⟩ := one_ok h8
  unfold texts
  rw [h3, h4, h5]
  rw [hr, List.append_nil] at h2
  exact h11.trans (by rw [h9, h7, h2]; rfl)
end Wi
end Go.Proofs.YthcmlbbbbcinkaaDoor

set_option linter.unusedVariables false
set_option linter.unusedSimpArgs false
namespace Go.Proofs.YthcmlbbbbcinkaaDoor
open Go.RowKit Pl
namespace Wi

theorem num_enc {n : Int} (h : I64 n) (t : Bs) (b : Bool) (r : List Bs) : numS ⟨num n ++ t, b, r⟩ = (n, ⟨t, b, r⟩) := by
  unfold numS
  simp only [rd_of_num n t h.1 h.2]
theorem dig_enc {d : Bs} (h : d.length = 32) (t : Bs) (b : Bool) (r : List Bs) : digS ⟨d ++ t, b, r⟩ = (d, ⟨t, b, r⟩) := by
  unfold digS
  rw [if_neg (by simp; omega)]
  simp only [Prod.mk.injEq, St.mk.injEq, and_true]
  exact ⟨by rw [← h, List.take_left'] ; rfl, by rw [← h, List.drop_left']; rfl⟩
theorem next_enc (s t : Bs) (b : Bool) (r : List Bs) : nextS ⟨s, b, t :: r⟩ = ⟨t, b, r⟩ := rfl
theorem one_enc {n : Int} (h : I64 n) (s : Bs) (b : Bool) (r : List Bs) : oneS ⟨s, b, num n :: r⟩ = (n, ⟨[], b, r⟩) := by
  unfold oneS
  have e := num_enc h [] b r
  rw [List.append_nil] at e
  rw [next_enc, e]
  simp [endS]
theorem key_enc {d : Bs} (h : d.length = 32) (s : Bs) (b : Bool) (r : List Bs) : keyS ⟨s, b, d :: r⟩ = (d, ⟨[], b, r⟩) := by
  unfold keyS
  have e := dig_enc h [] b r
  rw [List.append_nil] at e
  rw [next_enc, e]
  simp [endS]
theorem rec_enc {x : Rc} (h : x.Wf) (t : Bs) (b : Bool) (r : List Bs) : recS ⟨recT x ++ t, b, r⟩ = (x, ⟨t, b, r⟩) := by
  unfold recS recT
  rw [List.append_assoc, List.append_assoc, dig_enc h.k]
  simp only
  rw [num_enc h.c]
  simp only
  rw [dig_enc h.o]
theorem rng_enc {x : Rg} (h : x.Wf) (t : Bs) (b : Bool) (r : List Bs) : rngS ⟨rngT x ++ t, b, r⟩ = (x, ⟨t, b, r⟩) := by
  unfold rngS rngT
  rw [List.append_assoc, List.append_assoc, List.append_assoc, num_enc h.d]
  simp only
  rw [num_enc h.p]
  simp only
  rw [num_enc h.c]
  simp only
  rw [dig_enc h.s]
theorem mem_enc {x : Mb} (h : x.Wf) (t : Bs) (b : Bool) (r : List Bs) : memS ⟨memT x ++ t, b, r⟩ = (x, ⟨t, b, r⟩) := by
  unfold memS memT
  rw [List.append_assoc, List.append_assoc, num_enc h.n]
  simp only
  rw [num_enc h.i]
  simp only
  rw [num_enc h.s]
theorem num_ne (n : Int) (t : Bs) : num n ++ t ≠ [] := by unfold num; simp
theorem loop_enc {α : Type} {one : St → α × St} {tx : α → Bs} {W : α → Prop} (ho : ∀ x, W x → ∀ t b r, one ⟨tx x ++ t, b, r⟩ = (x, ⟨t, b, r⟩)) (hne : ∀ x, W x → tx x ≠ []) :
    ∀ (L : List α) (n : Nat) (o : List α) (r : List Bs), (∀ x ∈ L, W x) → L.length < n → loopS one n o ⟨join L tx, false, r⟩ = (o ++ L, ⟨[], false, r⟩)
  | L, 0, o, r, _, hl => by omega
  | [], n + 1, o, r, _, _ => by
    unfold loopS
    rw [if_pos (.inl rfl), List.append_nil]
    rfl
  | x :: L, n + 1, o, r, hw, hl => by
    have hj : join (x :: L) tx = tx x ++ join L tx := rfl
    unfold loopS
    rw [if_neg (by
      rw [hj]
      intro h
      rcases h with h | h
      · exact hne x (hw x (by simp)) (List.append_eq_nil_iff.1 h).1
      · cases h), hj, ho x (hw x (by simp))]
    simp only
    rw [loop_enc ho hne L n (o ++ [x]) r (fun y hy => hw y (List.mem_cons_of_mem _ hy)) (by simp only [List.length_cons] at hl; omega)]
    simp
theorem list_enc {α : Type} {one : St → α × St} {tx : α → Bs} {W : α → Prop} (ho : ∀ x, W x → ∀ t b r, one ⟨tx x ++ t, b, r⟩ = (x, ⟨t, b, r⟩)) (hne : ∀ x, W x → tx x ≠ []) {L : List α} {most : Nat} (hw : ∀ x ∈ L, W x) (hl : L.length ≤ most) (s : Bs) (r : List Bs) :
    listS one most ⟨s, false, join L tx :: r⟩ = (L, ⟨[], false, r⟩) := by
  unfold listS
  rw [next_enc, loop_enc ho hne L (most + 1) [] r hw (by omega)]
  rfl
theorem haze_enc {d : Bs} (h : d.length = 64) (s : Bs) (r : List Bs) : hazeS ⟨s, false, d :: r⟩ = (d, ⟨d, false, r⟩) := by
  unfold hazeS
  rw [next_enc]
  unfold hazeOf
  simp [h, List.take_of_length_le]
theorem found_enc {b : Bool} (s : Bs) (r : List Bs) : foundS ⟨s, false, num (if b = true then 1 else 0) :: r⟩ = (b, ⟨[], false, r⟩) := by
  have h0 : I64 (if b = true then 1 else 0) := by unfold I64; split <;> omega
  unfold foundS
  rw [one_enc h0]
  cases b <;> simp [inB]
theorem mani_one {s : Bs} {m n : Bs × Int × List Bs} (h1 : ManiIs s m) (h2 : ManiIs s n) : m = n := by
  obtain ⟨a1, a2, a3, a4, a5⟩ := h1
  obtain ⟨b1, b2, b3, b4, b5⟩ := h2
  have := encB_inj (m := ⟨m.1, m.2.1, none, 0, m.2.2⟩) (n := ⟨n.1, n.2.1, none, 0, n.2.2⟩) ⟨a2, a4, a3.1, a3.2⟩ ⟨b2, b4, b3.1, b3.2⟩ a5 b5 (a1.symm.trans b1)
  rw [sameM_iff] at this
  exact Prod.ext this.1 (Prod.ext this.2.1 this.2.2)
theorem maniOf_enc {s : Bs} {m : Bs × Int × List Bs} (h : ManiIs s m) : maniOf s = some m := by
  unfold maniOf
  rw [dif_pos ⟨m, h⟩]
  exact congrArg some (mani_one (Exists.choose_spec (p := fun m => ManiIs s m) ⟨m, h⟩) h)
theorem mani_enc {m : Bs × Int × List Bs} {t : Bs} (h : ManiIs t m) (s : Bs) (r : List Bs) : maniS ⟨s, false, t :: r⟩ = (m, ⟨t, false, r⟩) := by
  unfold maniS
  rw [next_enc]
  simp only [maniOf_enc h]
theorem i64_small {n : Int} (h0 : -1 ≤ n) (h1 : n ≤ 1) : I64 n := by unfold I64; omega
theorem body_enc {f : Fm} (hw : f.Wf) (hf : fits f = true) (hbr : f = bare f) (s : Bs) (r : List Bs) :
    ∃ s', bodyS { zFm with kind := f.kind, from_ := f.from_, mems := f.mems } ⟨s, false, fields f ++ r⟩ = (f, ⟨s', false, r⟩) := by
  have hR : ∀ x, Rg.Wf x → rngT x ≠ [] := fun x _ => by unfold rngT; rw [List.append_assoc, List.append_assoc]; exact num_ne _ _
  have hI : ∀ x, Rc.Wf x → recT x ≠ [] := fun x hx => by
    unfold recT
    intro e
    have := congrArg List.length e
    simp [hx.k] at this
  unfold bodyS fields
  by_cases k1 : f.kind = 1
  · simp only [if_pos k1]
    rw [List.singleton_append, one_enc hw.seq]
    exact ⟨_, Prod.ext (hbr.trans (by unfold bare; simp only [if_pos k1])).symm rfl⟩
  by_cases k2 : f.kind = 2
  · simp only [if_neg k1, if_pos k2]
    simp only [List.cons_append, List.nil_append]
    rw [one_enc hw.seq]
    simp only
    rw [one_enc hw.node]
    simp only
    rw [haze_enc hw.haze]
    exact ⟨_, Prod.ext (hbr.trans (by unfold bare; simp only [if_neg k1, if_pos k2])).symm rfl⟩
  by_cases k3 : f.kind = 3
  · simp only [if_neg k1, if_neg k2, if_pos k3]
    simp only [List.cons_append, List.nil_append]
    rw [one_enc hw.seq]
    simp only
    rw [one_enc hw.node]
    exact ⟨_, Prod.ext (hbr.trans (by unfold bare; simp only [if_neg k1, if_neg k2, if_pos k3])).symm rfl⟩
  by_cases k4 : f.kind = 4
  · simp only [if_neg k1, if_neg k2, if_neg k3, if_pos k4]
    simp only [List.cons_append, List.nil_append]
    rw [key_enc hw.key]
    exact ⟨_, Prod.ext (hbr.trans (by unfold bare; simp only [if_neg k1, if_neg k2, if_neg k3, if_pos k4])).symm rfl⟩
  by_cases k5 : f.kind = 5
  · simp only [if_neg k1, if_neg k2, if_neg k3, if_neg k4, if_pos k5]
    by_cases kf : f.found = true
    · simp only [if_pos kf, List.cons_append, List.nil_append]
      rw [key_enc hw.key]
      have e1 : num 1 = num (if true = true then 1 else 0) := rfl
      simp only
      rw [e1, found_enc]
      simp only [if_true]
      rw [one_enc hw.node]
      simp only
      have e2 := rec_enc hw.rcd [] false r
      rw [List.append_nil] at e2
      rw [next_enc, e2]
      exact ⟨_, Prod.ext (hbr.trans (by unfold bare; simp only [if_neg k1, if_neg k2, if_neg k3, if_neg k4, if_pos k5, kf, if_true])).symm rfl⟩
    · simp only [if_neg kf, List.cons_append, List.nil_append]
      rw [key_enc hw.key]
      have e1 : num 0 = num (if false = true then 1 else 0) := rfl
      simp only
      rw [e1, found_enc]
      simp only [Bool.false_eq_true, if_false]
      have kf2 : f.found = false := by simpa using kf
      exact ⟨_, Prod.ext (hbr.trans (by unfold bare; simp only [if_neg k1, if_neg k2, if_neg k3, if_neg k4, if_pos k5, kf2, Bool.false_eq_true, if_false])).symm rfl⟩
  by_cases k6 : f.kind = 6
  · simp only [if_neg k1, if_neg k2, if_neg k3, if_neg k4, if_neg k5, if_pos k6]
    simp only [List.cons_append, List.nil_append]
    rw [key_enc hw.out]
    simp only
    rw [one_enc hw.at_]
    exact ⟨_, Prod.ext (hbr.trans (by unfold bare; simp only [if_neg k1, if_neg k2, if_neg k3, if_neg k4, if_neg k5, if_pos k6])).symm rfl⟩
  by_cases k7 : f.kind = 7
  · simp only [if_neg k1, if_neg k2, if_neg k3, if_neg k4, if_neg k5, if_neg k6, if_pos k7]
    have hg : goodS f.size f.parts.length = true := by
      unfold fits at hf
      simpa [k7] using hf
    have hm : ManiIs (maniT f) (f.whole, f.size, f.parts) := ⟨rfl, hw.whole, hw.size, hw.parts, hg⟩
    simp only [List.cons_append, List.nil_append]
    rw [mani_enc hm]
    exact ⟨_, Prod.ext (hbr.trans (by unfold bare; simp only [if_neg k1, if_neg k2, if_neg k3, if_neg k4, if_neg k5, if_neg k6, if_pos k7])).symm rfl⟩
  by_cases k8 : f.kind = 8
  · simp only [if_neg k1, if_neg k2, if_neg k3, if_neg k4, if_neg k5, if_neg k6, if_neg k7, if_pos k8]
    simp only [List.cons_append, List.nil_append]
    rw [key_enc hw.out]
    simp only
    rw [one_enc hw.at_]
    simp only
    rw [next_enc]
    exact ⟨_, Prod.ext (hbr.trans (by unfold bare; simp only [if_neg k1, if_neg k2, if_neg k3, if_neg k4, if_neg k5, if_neg k6, if_neg k7, if_pos k8])).symm rfl⟩
  by_cases k9 : f.kind = 9
  · simp only [if_neg k1, if_neg k2, if_neg k3, if_neg k4, if_neg k5, if_neg k6, if_neg k7, if_neg k8, if_pos k9]
    have hg : f.rngs.length ≤ 16 := by
      unfold fits at hf
      simp [k9] at hf
      exact all_len hf.2
    simp only [List.cons_append, List.nil_append]
    rw [list_enc (fun x hx => rng_enc hx) hR hw.rngs hg]
    exact ⟨_, Prod.ext (hbr.trans (by unfold bare; simp only [if_neg k1, if_neg k2, if_neg k3, if_neg k4, if_neg k5, if_neg k6, if_neg k7, if_neg k8, if_pos k9])).symm rfl⟩
  by_cases k10 : f.kind = 10
  · simp only [if_neg k1, if_neg k2, if_neg k3, if_neg k4, if_neg k5, if_neg k6, if_neg k7, if_neg k8, if_neg k9, if_pos k10]
    have hg : f.items.length ≤ 16 ∧ f.rngs.length ≤ 16 := by
      unfold fits at hf
      simp [k10] at hf
      exact ⟨all_len hf.1, all_len hf.2⟩
    simp only [List.cons_append, List.nil_append]
    rw [list_enc (fun x hx => rec_enc hx) hI hw.items hg.1]
    simp only
    rw [list_enc (fun x hx => rng_enc hx) hR hw.rngs hg.2]
    exact ⟨_, Prod.ext (hbr.trans (by unfold bare; simp only [if_neg k1, if_neg k2, if_neg k3, if_neg k4, if_neg k5, if_neg k6, if_neg k7, if_neg k8, if_neg k9, if_pos k10])).symm rfl⟩
  exfalso
  unfold fits at hf
  simp [k1, k2, k3, k4, k5, k6, k7, k8, k9, k10] at hf
theorem all_of {α : Type} {l : List α} {n : Nat} {g : α → Bool} (h : all l n g = true) : ∀ x ∈ l, g x = true := by
  unfold all at h
  simp only [Bool.and_eq_true, List.all_eq_true] at h
  exact h.2
theorem dec_enc {f : Fm} (hw : f.Wf) (hg : good f = true) : ∃ s', decS (texts f) = (f, ⟨s', false, []⟩) := by
  obtain ⟨g1, g2, g3, g4⟩ := good_parts hg
  have hM : ∀ x, Mb.Wf x → memT x ≠ [] := fun x _ => by unfold memT; rw [List.append_assoc]; exact num_ne _ _
  unfold decS texts
  simp only [List.cons_append, List.nil_append]
  rw [one_enc hw.kind]
  simp only
  rw [one_enc hw.from_]
  simp only
  rw [list_enc (fun x hx => mem_enc hx) hM hw.mems (all_len g2)]
  simp only
  have := body_enc hw g3 g4 [] []
  rw [List.append_nil] at this
  exact this
/-- what is read without a fault and is good is what was written -/
theorem dec_iff {l : List Bs} {f : Fm} (hw : f.Wf) (hg : good f = true) : l = texts f ↔ ((decS l).1 = f ∧ (decS l).2.bad = false ∧ (decS l).2.rest = []) := by
  constructor
  · rintro rfl
    obtain ⟨s', e⟩ := dec_enc hw hg
    rw [e]
    exact ⟨rfl, rfl, rfl⟩
  · rintro ⟨h1, h2, h3⟩
    have := dec_ok h2 h3 (by rw [h1]; exact hg)
    rw [h1] at this
    exact this
end Wi
end Go.Proofs.YthcmlbbbbcinkaaDoor

set_option linter.unusedVariables false
set_option linter.unusedSimpArgs false
namespace Go.Proofs.YthcmlbbbbcinkaaDoor
open Go.RowKit Pl
namespace Wi

theorem node_i64 {n : Int} (h : isNode n = true) : I64 n := by
  unfold isNode inB at h
  simp only [Bool.and_eq_true, decide_eq_true_eq] at h
  unfold I64; omega
theorem num9 {n : Int} (h : I64 n) : (num n).length ≤ 9 := num_length_le n h.1 h.2
theorem join_len {α : Type} {t : α → Bs} {k : Nat} : ∀ {l : List α}, (∀ x ∈ l, (t x).length ≤ k) → (join l t).length ≤ l.length * k
  | [], _ => by simp [join]
  | x :: l, h => by
    have h1 := h x (by simp)
    have h2 := join_len (l := l) (t := t) (k := k) (fun y hy => h y (List.mem_cons_of_mem _ hy))
    have : join (x :: l) t = t x ++ join l t := rfl
    rw [this, List.length_append, List.length_cons, Nat.succ_mul]
    omega
theorem recT_len {x : Rc} (h : x.Wf) : (recT x).length ≤ 73 := by
  unfold recT
  have := num9 h.c
  simp only [List.length_append, h.k, h.o]
  omega
theorem rngT_len {x : Rg} (h : x.Wf) : (rngT x).length ≤ 59 := by
  unfold rngT
  have := num9 h.d; have := num9 h.p; have := num9 h.c
  simp only [List.length_append, h.s]
  omega
theorem memT_len {x : Mb} (h : x.Wf) : (memT x).length ≤ 27 := by
  unfold memT
  have := num9 h.n; have := num9 h.i; have := num9 h.s
  simp only [List.length_append]
  omega
theorem textB_len {t : Bs} (h : t.length ≤ 9223372036854775807) : (textB t).length ≤ 9 + t.length := by
  unfold textB
  rw [List.length_append]
  have := num_length_le (t.length : Int) (by omega) (by omega)
  omega
theorem textsB_len {k : Nat} (hk : k ≤ 1000000) : ∀ {ts : List Bs}, (∀ t ∈ ts, t.length ≤ k) → (textsB ts).length ≤ ts.length * (9 + k)
  | [], _ => by simp [textsB]
  | t :: ts, h => by
    have h1 := textB_len (t := t) (by have := h t (by simp); omega)
    have h2 := textsB_len hk (ts := ts) (fun y hy => h y (List.mem_cons_of_mem _ hy))
    have h3 := h t (by simp)
    have e : textsB (t :: ts) = textB t ++ textsB ts := by unfold textsB; simp
    rw [e, List.length_append, List.length_cons, Nat.succ_mul]
    omega
theorem srow_len {ts : List Bs} (hn : ts.length ≤ 1000000) {k : Nat} (hk : k ≤ 1000000) (h : ∀ t ∈ ts, t.length ≤ k) : (srow ts).length ≤ 9 + ts.length * (9 + k) := by
  unfold srow
  rw [List.length_append]
  have h1 := num_length_le (ts.length : Int) (by omega) (by omega)
  have h2 := textsB_len hk h
  omega
theorem maniT_len {f : Fm} (hw : f.Wf) (hg : goodS f.size f.parts.length = true) : (maniT f).length ≤ 336 := by
  have hp : f.parts.flatten.length ≤ 256 := by
    rw [flat32_length f.parts hw.parts]
    have := (good_bounds hg).2.2
    omega
  unfold maniT srow textsB textB
  have e0 := num_length_le (3 : Nat) (by omega) (by omega)
  have e1 := num9 hw.size
  obtain ⟨s, hs⟩ : ∃ s, s = num f.size := ⟨_, rfl⟩
  obtain ⟨p, hpp⟩ : ∃ p, p = f.parts.flatten := ⟨_, rfl⟩
  rw [← hs] at e1
  rw [← hpp] at hp
  rw [← hs, ← hpp]
  have e2 := num_length_le (f.whole.length : Nat) (by omega) (by have := hw.whole; omega)
  have e3 := num_length_le (s.length : Nat) (by omega) (by omega)
  have e4 := num_length_le (p.length : Nat) (by omega) (by omega)
  have e5 := hw.whole
  simp only [List.map_cons, List.map_nil, List.flatten_cons, List.flatten_nil, List.length_append, List.length_nil, List.length_cons, Nat.add_zero, Nat.zero_add, Nat.reduceAdd]
  omega
/-- a good frame's texts: at most seven, of at most so many bytes together -/
theorem fields_len {f : Fm} (hw : f.Wf) (hf : fits f = true) : (fields f).length ≤ 4 ∧ (∀ t ∈ fields f, t.length ≤ 1168) ∧ (textsB (fields f)).length ≤ 2200 := by
  have hb : ∀ (ts : List Bs) (k : Nat), ts.length ≤ 4 → (∀ t ∈ ts, t.length ≤ k) → k ≤ 500 → ts.length ≤ 4 ∧ (∀ t ∈ ts, t.length ≤ 1168) ∧ (textsB ts).length ≤ 2200 := fun ts k h1 h2 h3 => by
    refine ⟨h1, fun t ht => by have := h2 t ht; omega, ?_⟩
    have := textsB_len (k := k) (by omega) h2
    have : ts.length * (9 + k) ≤ 4 * (9 + k) := Nat.mul_le_mul_right _ h1
    omega
  have c := num9 hw.seq; have d := num9 hw.node; have e := num9 hw.at_; have g := hw.key; have o := hw.out; have z := hw.haze; have r := recT_len hw.rcd
  unfold fields
  by_cases k1 : f.kind = 1
  · rw [if_pos k1]
    exact hb _ 100 (by simp) (fun t ht => by simp only [List.mem_cons, List.not_mem_nil, or_false] at ht; subst ht; omega) (by omega)
  rw [if_neg k1]
  by_cases k2 : f.kind = 2
  · rw [if_pos k2]
    exact hb _ 100 (by simp) (fun t ht => by simp only [List.mem_cons, List.not_mem_nil, or_false] at ht; rcases ht with rfl | rfl | rfl <;> omega) (by omega)
  rw [if_neg k2]
  by_cases k3 : f.kind = 3
  · rw [if_pos k3]
    exact hb _ 100 (by simp) (fun t ht => by simp only [List.mem_cons, List.not_mem_nil, or_false] at ht; rcases ht with rfl | rfl <;> omega) (by omega)
  rw [if_neg k3]
  by_cases k4 : f.kind = 4
  · rw [if_pos k4]
    exact hb _ 100 (by simp) (fun t ht => by simp only [List.mem_cons, List.not_mem_nil, or_false] at ht; subst ht; omega) (by omega)
  rw [if_neg k4]
  by_cases k5 : f.kind = 5
  · rw [if_pos k5]
    have n1 : (num 1).length ≤ 9 := num9 (i64_small (by omega) (by omega))
    have n0 : (num 0).length ≤ 9 := num9 (i64_small (by omega) (by omega))
    split
    · exact hb _ 100 (by simp) (fun t ht => by simp only [List.mem_cons, List.not_mem_nil, or_false] at ht; rcases ht with rfl | rfl | rfl | rfl <;> omega) (by omega)
    · exact hb _ 100 (by simp) (fun t ht => by simp only [List.mem_cons, List.not_mem_nil, or_false] at ht; rcases ht with rfl | rfl <;> omega) (by omega)
  rw [if_neg k5]
  by_cases k6 : f.kind = 6
  · rw [if_pos k6]
    exact hb _ 100 (by simp) (fun t ht => by simp only [List.mem_cons, List.not_mem_nil, or_false] at ht; rcases ht with rfl | rfl <;> omega) (by omega)
  rw [if_neg k6]
  by_cases k7 : f.kind = 7
  · rw [if_pos k7]
    have hg : goodS f.size f.parts.length = true := by
      unfold fits at hf
      simpa [k7] using hf
    have := maniT_len hw hg
    exact hb _ 336 (by simp) (fun t ht => by simp only [List.mem_cons, List.not_mem_nil, or_false] at ht; subst ht; omega) (by omega)
  rw [if_neg k7]
  by_cases k8 : f.kind = 8
  · rw [if_pos k8]
    have hg : f.data.length ≤ 64 := by
      unfold fits at hf
      simp [k8] at hf
      exact hf.2
    exact hb _ 100 (by simp) (fun t ht => by simp only [List.mem_cons, List.not_mem_nil, or_false] at ht; rcases ht with rfl | rfl | rfl <;> omega) (by omega)
  rw [if_neg k8]
  have hl : (f.kind = 9 ∨ f.kind = 10) → f.items.length ≤ 16 ∧ f.rngs.length ≤ 16 := fun hk => by
    unfold fits at hf
    rcases hk with hk | hk <;> (simp [hk] at hf; exact ⟨all_len hf.1, all_len hf.2⟩)
  have hR : f.rngs.length ≤ 16 → (join f.rngs rngT).length ≤ 944 := fun h => by
    have := join_len (l := f.rngs) (t := rngT) (k := 59) (fun x hx => rngT_len (hw.rngs x hx))
    have : f.rngs.length * 59 ≤ 16 * 59 := Nat.mul_le_mul_right _ h
    omega
  have hI : f.items.length ≤ 16 → (join f.items recT).length ≤ 1168 := fun h => by
    have := join_len (l := f.items) (t := recT) (k := 73) (fun x hx => recT_len (hw.items x hx))
    have : f.items.length * 73 ≤ 16 * 73 := Nat.mul_le_mul_right _ h
    omega
  have one : ∀ t : Bs, textsB [t] = textB t := fun t => by unfold textsB; simp
  have two : ∀ t u : Bs, textsB [t, u] = textB t ++ textB u := fun t u => by unfold textsB; simp
  by_cases k9 : f.kind = 9
  · rw [if_pos k9]
    have h1 := hR (hl (.inl k9)).2
    refine ⟨by simp, fun t ht => by simp only [List.mem_cons, List.not_mem_nil, or_false] at ht; subst ht; omega, ?_⟩
    rw [one]
    have := textB_len (t := join f.rngs rngT) (by omega)
    omega
  rw [if_neg k9]
  by_cases k10 : f.kind = 10
  · have h1 := hR (hl (.inr k10)).2
    have h2 := hI (hl (.inr k10)).1
    refine ⟨by simp, fun t ht => by simp only [List.mem_cons, List.not_mem_nil, or_false] at ht; rcases ht with rfl | rfl <;> omega, ?_⟩
    rw [two, List.length_append]
    have := textB_len (t := join f.rngs rngT) (by omega)
    have := textB_len (t := join f.items recT) (by omega)
    omega
  exfalso
  unfold fits at hf
  simp [k1, k2, k3, k4, k5, k6, k7, k8, k9, k10] at hf
theorem texts_len {f : Fm} (hw : f.Wf) (hg : good f = true) : (texts f).length ≤ 7 ∧ (∀ t ∈ texts f, t.length ≤ 1168) ∧ (row f).length ≤ 2600 := by
  obtain ⟨g1, g2, g3, g4⟩ := good_parts hg
  obtain ⟨h1, h2, h3⟩ := fields_len hw g3
  have a := num9 hw.kind; have b := num9 hw.from_
  have hm : (join f.mems memT).length ≤ 162 := by
    have := join_len (l := f.mems) (t := memT) (k := 27) (fun x hx => memT_len (hw.mems x hx))
    have : f.mems.length * 27 ≤ 6 * 27 := Nat.mul_le_mul_right _ (all_len g2)
    omega
  have hl : (texts f).length = 3 + (fields f).length := by unfold texts; simp; omega
  refine ⟨by omega, fun t ht => ?_, ?_⟩
  · unfold texts at ht
    simp only [List.cons_append, List.nil_append, List.mem_cons] at ht
    rcases ht with rfl | rfl | rfl | ht
    · omega
    · omega
    · omega
    · exact h2 t ht
  · unfold row srow
    rw [List.length_append]
    have e1 := num_length_le ((texts f).length : Int) (by omega) (by omega)
    have e2 : textsB (texts f) = textB (num f.kind) ++ (textB (num f.from_) ++ (textB (join f.mems memT) ++ textsB (fields f))) := by unfold texts textsB; simp
    rw [e2, List.length_append, List.length_append, List.length_append]
    have := textB_len (t := num f.kind) (by omega)
    have := textB_len (t := num f.from_) (by omega)
    have := textB_len (t := join f.mems memT) (by omega)
    omega
theorem enc_len (K : List Int) {f : Fm} (hw : f.Wf) (hg : good f = true) : (enc K f).length ≤ 4096 ∧ 32 ≤ (enc K f).length := by
  have := (texts_len hw hg).2.2
  unfold enc
  rw [List.length_append, hashB_length]
  omega
theorem row_rd {f : Fm} (hw : f.Wf) (hg : good f = true) : rdRow (row f) 7 = some (texts f, []) := by
  obtain ⟨h1, h2, h3⟩ := texts_len hw hg
  have := rd_of_row (texts f) [] 7 (by omega) (fun t ht => by have := h2 t ht; omega)
  rw [List.append_nil, if_pos (by omega)] at this
  exact this
/-- one form -/
theorem row_inj2 {f g : Fm} (hf : f.Wf) (gf : good f = true) (hg : g.Wf) (gg : good g = true) (h : row f = row g) : f = g := by
  have h1 := row_rd hf gf
  rw [h, row_rd hg gg] at h1
  have e : texts g = texts f := (Prod.mk.inj (Option.some.inj h1)).1
  obtain ⟨s1, e1⟩ := dec_enc hf gf
  obtain ⟨s2, e2⟩ := dec_enc hg gg
  rw [← e, e2] at e1
  exact (Prod.mk.inj e1).1.symm
theorem enc_drop (K : List Int) (f : Fm) : (enc K f).drop 32 = row f := by
  unfold enc
  exact List.drop_left' (hashB_length _ _)
theorem enc_take (K : List Int) (f : Fm) : (enc K f).take 32 = hashB K (row f) := by
  unfold enc
  exact List.take_left' (hashB_length _ _)
theorem enc_iff (K : List Int) {f g : Fm} (hf : f.Wf) (gf : good f = true) (hg : g.Wf) (gg : good g = true) : enc K f = enc K g ↔ f = g :=
  ⟨fun h => row_inj2 hf gf hg gg (by rw [← enc_drop K f, ← enc_drop K g, h]), fun h => by rw [h]⟩

/-! ### what is read of bytes -/
/-- the answer of the reading: the frame and 0, or what is wrong -/
def DecAns (K : List Int) (s : Bs) (f : Fm) (e : Int) : Prop :=
  if 4096 < s.length then e = 4 ∧ f = zFm
  else if s.length < 32 ∨ hashB K (s.drop 32) ≠ s.take 32 then e = 5 ∧ f = zFm
  else (e = 0 ∧ f.Wf ∧ good f = true ∧ s = enc K f) ∨ (e = 3 ∧ f = zFm ∧ ∀ g, g.Wf → good g = true → s ≠ enc K g)
theorem sum_ok (K : List Int) (f : Fm) : hashB K ((enc K f).drop 32) = (enc K f).take 32 := by rw [enc_drop, enc_take]
theorem ans_enc {K : List Int} {f g : Fm} {e : Int} (hw : f.Wf) (hg : good f = true) (h : DecAns K (enc K f) g e) : e = 0 ∧ g = f := by
  obtain ⟨l1, l2⟩ := enc_len K hw hg
  unfold DecAns at h
  rw [if_neg (by omega), if_neg (by rw [sum_ok]; simp; omega)] at h
  rcases h with ⟨h1, h2, h3, h4⟩ | ⟨-, -, h⟩
  · exact ⟨h1, ((enc_iff K hw hg h2 h3).1 h4).symm⟩
  · exact absurd rfl (h f hw hg)
/-- bytes whose texts are read: the answer -/
theorem ans_of {K : List Int} {s : Bs} {l : List Bs} (h1 : ¬ 4096 < s.length) (h2 : 32 ≤ s.length) (h3 : hashB K (s.drop 32) = s.take 32) (hr : rdRow (s.drop 32) 7 = some (l, [])) (hwf : (decS l).1.Wf) :
    ((decS l).2.bad = false ∧ (decS l).2.rest = [] ∧ good (decS l).1 = true → DecAns K s (decS l).1 0) ∧
    (¬ ((decS l).2.bad = false ∧ (decS l).2.rest = [] ∧ good (decS l).1 = true) → DecAns K s zFm 3) := by
  have hs : s = hashB K (s.drop 32) ++ s.drop 32 := by rw [h3, List.take_append_drop]
  have hrow : srow l = s.drop 32 := by have := row_of_rd hr; rw [List.append_nil] at this; exact this
  constructor
  · rintro ⟨g1, g2, g3⟩
    unfold DecAns
    rw [if_neg h1, if_neg (by simp [h3]; omega)]
    refine .inl ⟨rfl, hwf, g3, ?_⟩
    have e := dec_ok g1 g2 g3
    unfold enc row
    rw [← e, hrow]
    exact hs
  · intro hn
    unfold DecAns
    rw [if_neg h1, if_neg (by simp [h3]; omega)]
    refine .inr ⟨rfl, rfl, fun g hw hg e => hn ?_⟩
    have h5 := row_rd hw hg
    rw [← enc_drop K g, ← e, hr] at h5
    have h6 : l = texts g := (Prod.mk.inj (Option.some.inj h5)).1
    obtain ⟨h7, h8, h9⟩ := (dec_iff hw hg).1 h6
    exact ⟨h8, h9, by rw [h7]; exact hg⟩
/-- bytes whose row is not read -/
theorem ans_no {K : List Int} {s : Bs} (h1 : ¬ 4096 < s.length) (h2 : 32 ≤ s.length) (h3 : hashB K (s.drop 32) = s.take 32) (hr : ∀ l, rdRow (s.drop 32) 7 ≠ some (l, [])) : DecAns K s zFm 3 := by
  unfold DecAns
  rw [if_neg h1, if_neg (by simp [h3]; omega)]
  refine .inr ⟨rfl, rfl, fun g hw hg e => ?_⟩
  have h5 := row_rd hw hg
  rw [← enc_drop K g, ← e] at h5
  exact hr _ h5
end Wi
end Go.Proofs.YthcmlbbbbcinkaaDoor
