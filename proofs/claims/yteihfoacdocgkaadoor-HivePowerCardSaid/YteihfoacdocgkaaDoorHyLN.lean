/-
  Layer 5's laws: HivePower's parts of code, and what holds between them.
-/
import Derived.Test.YteihfoacdocgkaaDoorHyHK
import Derived.Great.BuildSlice
set_option linter.unusedVariables false
set_option linter.unusedSimpArgs false
namespace Go.Proofs.YteihfoacdocgkaaDoor
open Go.RowKit Pl Sh

abbrev TxL := List (List UInt8)
/-- behind i calls, the power there or gone: rows C, those of Kp surely; what was put, what is sure -/
structure PwI (ds : List ActH) (i : Nat) (C Kp sure blobs : TxL) (safe recs : List RecD) : Prop where
  lb : blobs.length ≤ i
  ls : sure.length ≤ i
  lr : recs.length ≤ i
  lf : safe.length ≤ i
  lc : C.length ≤ i
  txt : ∀ t ∈ blobs, t.length ≤ 512 ∧ ∃ (j : Nat) (h : j < ds.length), j < 70 ∧ ds[j].text = t
  fit : ∀ r ∈ recs, r.Fit ∧ isRecS r = true
  src : ∀ row ∈ C, (∃ t ∈ blobs, row = blobRowS t) ∨ (∃ r ∈ recs, row = recRowS r)
  sur : ∀ t ∈ sure, t ∈ blobs ∧ blobRowS t ∈ Kp
  saf : ∀ r ∈ safe, r ∈ recs ∧ recRowS r ∈ Kp
  kin : ∀ r ∈ Kp, r ∈ C
/-- with power: all that was put is there -/
structure PwA (ds : List ActH) (i : Nat) (C Kp sure blobs : TxL) (safe recs : List RecD) : Prop extends PwI ds i C Kp sure blobs safe recs where
  bl : ∀ t ∈ blobs, blobRowS t ∈ C
  rl : ∀ r ∈ recs, recRowS r ∈ C
theorem pwA_start (ds : List ActH) : PwA ds 0 [] [] [] [] [] [] := ⟨⟨Nat.le_refl _, Nat.le_refl _, Nat.le_refl _, Nat.le_refl _, Nat.le_refl _, (fun t h => by cases h), (fun t h => by cases h), (fun t h => by cases h), (fun t h => by cases h), (fun t h => by cases h), fun t h => by cases h⟩, (fun t h => by cases h), fun t h => by cases h⟩
theorem PwI.next {ds : List ActH} {i : Nat} {C Kp sure blobs : TxL} {safe recs : List RecD} (h : PwI ds i C Kp sure blobs safe recs) : PwI ds (i + 1) C Kp sure blobs safe recs :=
  { h with lb := Nat.le_succ_of_le h.lb, ls := Nat.le_succ_of_le h.ls, lr := Nat.le_succ_of_le h.lr, lf := Nat.le_succ_of_le h.lf, lc := Nat.le_succ_of_le h.lc }
theorem PwA.next {ds : List ActH} {i : Nat} {C Kp sure blobs : TxL} {safe recs : List RecD} (h : PwA ds i C Kp sure blobs safe recs) : PwA ds (i + 1) C Kp sure blobs safe recs := ⟨h.toPwI.next, h.bl, h.rl⟩
theorem PwI.more {ds : List ActH} {i : Nat} {C Kp sure blobs : TxL} {safe recs : List RecD} {t : List UInt8} (h : PwI ds i C Kp sure blobs safe recs) (hi : i < ds.length) (hi7 : i < 70) (ht : ds[i].text = t) (hl : t.length ≤ 512) : PwI ds (i + 1) C Kp sure (blobs ++ [t]) safe recs := by
  have h' := h.next
  refine { h' with lb := by rw [List.length_append]; have := h.lb; simp; omega, txt := fun u hu => ?_, src := fun row hr => ?_, sur := fun u hu => ⟨List.mem_append_left _ (h.sur u hu).1, (h.sur u hu).2⟩ }
  · rcases List.mem_append.1 hu with hu | hu
    · exact h.txt u hu
    · simp only [List.mem_singleton] at hu
      subst hu
      exact ⟨hl, i, hi, hi7, ht⟩
  · rcases h.src row hr with ⟨u, hu, e⟩ | ⟨r, hr2, e⟩
    · exact .inl ⟨u, List.mem_append_left _ hu, e⟩
    · exact .inr ⟨r, hr2, e⟩
/-- the row that has a text's digest is that text's -/
theorem PwI.row {K : List Int} {ds : List ActH} {i j : Nat} {C Kp sure blobs : TxL} {safe recs : List RecD} {row t : List UInt8} (h : PwI ds i C Kp sure blobs safe recs) (hinj : InjT K ds) (hj : j < ds.length) (hj7 : j < 70) (hjt : ds[j].text = t) (hr : row ∈ C) (he : rowS K row = some (true, hashB K t, row)) : row = blobRowS t ∧ asBlobS row = (t, true) := by
  rcases h.src row hr with ⟨u, hu, rfl⟩ | ⟨x, hx, rfl⟩
  · obtain ⟨hul, l, hl, hl7, hlt⟩ := h.txt u hu
    rw [rowS_of_blob K _ hul] at he
    simp only [Option.some.injEq, Prod.mk.injEq, true_and, and_true] at he
    have := hinj l j hl hj hl7 hj7 (by rw [hlt, hjt]; exact he)
    rw [hlt, hjt] at this
    rw [this] at hul ⊢
    exact ⟨rfl, asBlob_blob t hul⟩
  · rw [rowS_of_rec K x (h.fit x hx).1 (h.fit x hx).2] at he
    simp at he
theorem PwI.rowB {K : List Int} {ds : List ActH} {i : Nat} {C Kp sure blobs : TxL} {safe recs : List RecD} {row t : List UInt8} (h : PwI ds i C Kp sure blobs safe recs) (hinj : InjT K ds) (ht : t ∈ blobs) (hr : row ∈ C) (he : rowS K row = some (true, hashB K t, row)) : row = blobRowS t ∧ asBlobS row = (t, true) := by
  obtain ⟨-, j, hj, hj7, hjt⟩ := h.txt t ht
  exact h.row hinj hj hj7 hjt hr he
theorem PwA.old {K : List Int} {ds : List ActH} {i : Nat} {C Kp sure blobs : TxL} {safe recs : List RecD} {row t : List UInt8} (h : PwA ds i C Kp sure blobs safe recs) (hinj : InjT K ds) (hi : i < ds.length) (hi7 : i < 70) (ht : ds[i].text = t) (hl : t.length ≤ 512) (hr : row ∈ C) (he : rowS K row = some (true, hashB K t, row)) : PwA ds (i + 1) C Kp sure (blobs ++ [t]) safe recs := by
  refine ⟨h.toPwI.more hi hi7 ht hl, fun u hu => ?_, h.rl⟩
  rcases List.mem_append.1 hu with hu | hu
  · exact h.bl u hu
  · simp only [List.mem_singleton] at hu
    subst hu
    rw [← (h.toPwI.row hinj hi hi7 ht hr he).1]; exact hr
theorem PwA.new {ds : List ActH} {i : Nat} {C Kp sure blobs : TxL} {safe recs : List RecD} {t : List UInt8} (h : PwA ds i C Kp sure blobs safe recs) (hi : i < ds.length) (hi7 : i < 70) (ht : ds[i].text = t) (hl : t.length ≤ 512) : PwA ds (i + 1) (C ++ [blobRowS t]) Kp sure (blobs ++ [t]) safe recs := by
  have h' := h.toPwI.more hi hi7 ht hl
  refine ⟨{ h' with lc := by rw [List.length_append]; have := h.lc; simp; omega, src := fun row hr => ?_, kin := fun r hr => List.mem_append_left _ (h.kin r hr) }, fun u hu => ?_, fun r hr => List.mem_append_left _ (h.rl r hr)⟩
  · rcases List.mem_append.1 hr with hr | hr
    · exact h'.src row hr
    · simp only [List.mem_singleton] at hr
      exact .inl ⟨t, by simp, hr⟩
  · rcases List.mem_append.1 hu with hu | hu
    · exact List.mem_append_left _ (h.bl u hu)
    · simp only [List.mem_singleton] at hu
      subst hu
      simp
theorem PwA.recNew {ds : List ActH} {i : Nat} {C Kp sure blobs : TxL} {safe recs : List RecD} {r : RecD} (h : PwA ds i C Kp sure blobs safe recs) (hf : r.Fit) (hr : isRecS r = true) : PwA ds (i + 1) (C ++ [recRowS r]) Kp sure blobs safe (recs ++ [r]) := by
  have h' := h.toPwI.next
  refine ⟨{ h' with lr := by rw [List.length_append]; have := h.lr; simp; omega, lc := by rw [List.length_append]; have := h.lc; simp; omega, fit := fun x hx => ?_, src := fun row hw => ?_, saf := fun x hx => ⟨List.mem_append_left _ (h.saf x hx).1, (h.saf x hx).2⟩, kin := fun x hx => List.mem_append_left _ (h.kin x hx) }, fun u hu => List.mem_append_left _ (h.bl u hu), fun x hx => ?_⟩
  · rcases List.mem_append.1 hx with hx | hx
    · exact h.fit x hx
    · simp only [List.mem_singleton] at hx
      subst hx
      exact ⟨hf, hr⟩
  · rcases List.mem_append.1 hw with hw | hw
    · rcases h.src row hw with ⟨u, hu, e⟩ | ⟨x, hx, e⟩
      · exact .inl ⟨u, hu, e⟩
      · exact .inr ⟨x, List.mem_append_left _ hx, e⟩
    · simp only [List.mem_singleton] at hw
      exact .inr ⟨r, by simp, hw⟩
  · rcases List.mem_append.1 hx with hx | hx
    · exact List.mem_append_left _ (h.rl x hx)
    · simp only [List.mem_singleton] at hx
      subst hx
      simp
theorem PwA.sync {ds : List ActH} {i : Nat} {C Kp sure blobs : TxL} {safe recs : List RecD} (h : PwA ds i C Kp sure blobs safe recs) : PwA ds (i + 1) C C blobs blobs recs recs := by
  have h' := h.toPwI.next
  exact ⟨{ h' with ls := h'.lb, lf := h'.lr, sur := fun t ht => ⟨ht, h.bl t ht⟩, saf := fun r hr => ⟨hr, h.rl r hr⟩, kin := fun r hr => hr }, h.bl, h.rl⟩

/-- which of the first k texts are there, each once -/
def firstsTo (C : TxL) (bs : TxL) : Nat → TxL
  | 0 => []
  | k + 1 => if blobRowS (bs.getD k []) ∈ C ∧ bs.getD k [] ∉ bs.take k then firstsTo C bs k ++ [bs.getD k []] else firstsTo C bs k
theorem take_getD {bs : TxL} {k : Nat} (h : k < bs.length) : bs.take (k + 1) = bs.take k ++ [bs.getD k []] := by
  rw [List.take_add_one, List.getElem?_eq_getElem h, List.getD_eq_getElem?_getD, List.getElem?_eq_getElem h]
  rfl
theorem firsts_ok (C bs : TxL) : ∀ k, k ≤ bs.length → (firstsTo C bs k).Nodup ∧ ∀ t, t ∈ firstsTo C bs k ↔ t ∈ bs.take k ∧ blobRowS t ∈ C
  | 0, _ => ⟨List.nodup_nil, fun t => by simp [firstsTo]⟩
  | k + 1, hk => by
    obtain ⟨h1, h2⟩ := firsts_ok C bs k (by omega)
    have e := take_getD (show k < bs.length by omega)
    obtain ⟨x, hx⟩ : ∃ x, x = bs.getD k [] := ⟨_, rfl⟩
    rw [e]
    unfold firstsTo
    rw [← hx]
    by_cases hc : blobRowS x ∈ C ∧ x ∉ bs.take k
    · rw [if_pos hc]
      refine ⟨List.nodup_append.2 ⟨h1, by simp, fun a ha b hb => ?_⟩, fun t => ?_⟩
      · simp only [List.mem_singleton] at hb
        subst hb
        rintro rfl
        exact hc.2 ((h2 a).1 ha).1
      · rw [List.mem_append, List.mem_append, List.mem_singleton, h2]
        constructor
        · rintro (⟨a, b⟩ | rfl)
          · exact ⟨.inl a, b⟩
          · exact ⟨.inr rfl, hc.1⟩
        · rintro ⟨a | a, b⟩
          · exact .inl ⟨a, b⟩
          · exact .inr a
    · rw [if_neg hc]
      refine ⟨h1, fun t => ?_⟩
      rw [h2, List.mem_append, List.mem_singleton]
      constructor
      · rintro ⟨a, b⟩; exact ⟨.inl a, b⟩
      · rintro ⟨a | a, b⟩
        · exact ⟨a, b⟩
        · subst a
          refine ⟨Classical.byContradiction fun hn => hc ⟨b, hn⟩, b⟩
theorem rows_nodup {K : List Int} {C : TxL} (h : RowsOk K C) : C.Nodup := by
  refine List.Pairwise.imp_of_mem (fun {x y} hx hy hne => ?_) h.names
  rintro rfl
  obtain ⟨b, id, e, -⟩ := h.row x hx
  exact hne b id e e
def isBRow (K : List Int) (r : List UInt8) : Bool := match rowS K r with
  | some (b, _, _) => b
  | none => false
theorem keysC_len {K : List Int} : ∀ {C : TxL}, (∀ r ∈ C, ∃ b id, rowS K r = some (b, id, r) ∧ r.length ≤ 600) → (C.filter (isBRow K)).length + (keysC K C).length = C.length
  | [], _ => rfl
  | r :: C, h => by
    have ih := keysC_len (C := C) (fun x hx => h x (by simp [hx]))
    obtain ⟨b, id, e, -⟩ := h r (by simp)
    unfold keysC at ih ⊢
    cases b with
    | true =>
      have e1 : isBRow K r = true := by unfold isBRow; rw [e]
      rw [List.filter_cons_of_pos e1, List.filterMap_cons, e]
      simp only [List.length_cons]
      omega
    | false =>
      have e1 : ¬ isBRow K r = true := by unfold isBRow; rw [e]; simp
      rw [List.filter_cons_of_neg e1, List.filterMap_cons, e]
      simp only [List.length_cons]
      omega
theorem keysC_mem {K : List Int} {C : TxL} {id : List UInt8} (h : RowsOk K C) : id ∈ keysC K C ↔ ∃ row ∈ C, rowS K row = some (false, id, row) := by
  unfold keysC
  rw [List.mem_filterMap]
  constructor
  · rintro ⟨r, hr, he⟩
    obtain ⟨b, i, e, -⟩ := h.row r hr
    rw [e] at he
    cases b with
    | true => simp at he
    | false => simp only [Option.some.injEq] at he; subst he; exact ⟨r, hr, e⟩
  · rintro ⟨r, hr, e⟩
    exact ⟨r, hr, by rw [e]⟩
theorem blobRow_inj {a b : List UInt8} (ha : a.length ≤ 512) (hb : b.length ≤ 512) (h : blobRowS a = blobRowS b) : a = b := by
  have := asBlob_blob a ha
  rw [h, asBlob_blob b hb] at this
  exact (Prod.mk.inj this).1.symm
theorem recRow_inj {a b : RecD} (ha : a.Fit) (ha2 : isRecS a = true) (hb : b.Fit) (hb2 : isRecS b = true) (h : recRowS a = recRowS b) : a = b := by
  have := asRec_rec a ha ha2
  rw [h, asRec_rec b hb hb2] at this
  exact (Option.some.inj this).symm
theorem nodup_mapInj {α β : Type} {f : α → β} : ∀ {l : List α}, l.Nodup → (∀ x ∈ l, ∀ y ∈ l, f x = f y → x = y) → (l.map f).Nodup
  | [], _, _ => List.nodup_nil
  | a :: l, h, hi => by
    obtain ⟨h1, h2⟩ := List.nodup_cons.1 h
    rw [List.map_cons, List.nodup_cons]
    refine ⟨fun hm => ?_, nodup_mapInj h2 (fun x hx y hy e => hi x (by simp [hx]) y (by simp [hy]) e)⟩
    obtain ⟨y, hy, e⟩ := List.mem_map.1 hm
    exact h1 (by rw [← hi y (by simp [hy]) a (by simp) e]; exact hy)
/-- blobs that are there and records' keys: all that is there -/
theorem PwI.count {K : List Int} {ds : List ActH} {i : Nat} {C C' Kp sure blobs : TxL} {safe recs : List RecD} (h : PwI ds i C Kp sure blobs safe recs) (hsub : ∀ r ∈ C', r ∈ C) (hok : RowsOk K C') : (firstsTo C' blobs blobs.length).length + (keysC K C').length = C'.length := by
  have h1 := keysC_len hok.row
  obtain ⟨h2, h3⟩ := firsts_ok C' blobs blobs.length (Nat.le_refl _)
  rw [List.take_length] at h3
  have hm : ((firstsTo C' blobs blobs.length).map blobRowS).Nodup := nodup_mapInj h2 (fun x hx y hy e => blobRow_inj (h.txt x ((h3 x).1 hx).1).1 (h.txt y ((h3 y).1 hy).1).1 e)
  have hn : (C'.filter (isBRow K)).Nodup := (rows_nodup hok).filter _
  have a := nodup_sub_len hm (l2 := C'.filter (isBRow K)) (fun x hx => by
    obtain ⟨t, ht, rfl⟩ := List.mem_map.1 hx
    obtain ⟨t1, t2⟩ := (h3 t).1 ht
    refine List.mem_filter.2 ⟨t2, ?_⟩
    unfold isBRow
    rw [rowS_of_blob K t (h.txt t t1).1])
  have b := nodup_sub_len hn (l2 := (firstsTo C' blobs blobs.length).map blobRowS) (fun x hx => by
    obtain ⟨x1, x2⟩ := List.mem_filter.1 hx
    rcases h.src x (hsub x x1) with ⟨t, ht, rfl⟩ | ⟨r, hr, rfl⟩
    · exact List.mem_map.2 ⟨t, (h3 t).2 ⟨ht, x1⟩, rfl⟩
    · unfold isBRow at x2
      rw [rowS_of_rec K r (h.fit r hr).1 (h.fit r hr).2] at x2
      cases x2)
  rw [List.length_map] at a b
  omega
/-- a record that is answered for a key that is there -/
theorem PwI.recd {K : List Int} {ds : List ActH} {i : Nat} {C Kp sure blobs : TxL} {safe recs : List RecD} {row id : List UInt8} (h : PwI ds i C Kp sure blobs safe recs) (hr : row ∈ C) (he : rowS K row = some (false, id, row)) : ∃ r ∈ recs, row = recRowS r ∧ r.key = id ∧ asRecS row = some r := by
  rcases h.src row hr with ⟨u, hu, rfl⟩ | ⟨x, hx, rfl⟩
  · rw [rowS_of_blob K _ (h.txt u hu).1] at he
    simp at he
  · have := h.fit x hx
    rw [rowS_of_rec K x this.1 this.2] at he
    simp only [Option.some.injEq, Prod.mk.injEq, true_and, and_true] at he
    exact ⟨x, hx, rfl, he, asRec_rec x this.1 this.2⟩
/-- the records behind the first k keys -/
structure LeftI (C' : TxL) (ks : TxL) (recs : List RecD) (k : Nat) (left : List RecD) : Prop where
  len : left.length = k
  mem : ∀ r ∈ left, r ∈ recs ∧ recRowS r ∈ C'
  key : ∀ j, j < k → ∃ r ∈ left, r.key = ks.getD j []
theorem left_start (C' ks : TxL) (recs : List RecD) : LeftI C' ks recs 0 [] := ⟨rfl, (fun r h => by cases h), fun j h => by omega⟩
theorem LeftI.next {C' ks : TxL} {recs left : List RecD} {k : Nat} {r : RecD} (h : LeftI C' ks recs k left) (h1 : r ∈ recs) (h2 : recRowS r ∈ C') (h3 : r.key = ks.getD k []) : LeftI C' ks recs (k + 1) (left ++ [r]) := by
  refine ⟨by rw [List.length_append, h.len]; rfl, fun x hx => ?_, fun j hj => ?_⟩
  · rcases List.mem_append.1 hx with hx | hx
    · exact h.mem x hx
    · simp only [List.mem_singleton] at hx
      subst hx
      exact ⟨h1, h2⟩
  · by_cases e : j = k
    · subst e; exact ⟨r, by simp, h3⟩
    · obtain ⟨x, hx, e2⟩ := h.key j (by omega)
      exact ⟨x, List.mem_append_left _ hx, e2⟩
theorem LeftI.all {K : List Int} {ds : List ActH} {i : Nat} {C C' ks Kp sure blobs : TxL} {safe recs left : List RecD} (h : PwI ds i C Kp sure blobs safe recs) (hl : LeftI C' ks recs ks.length left) (hok : RowsOk K C') (hk : ks.Perm (keysC K C')) {r : RecD} (hr : r ∈ recs) (hrow : recRowS r ∈ C') : r ∈ left := by
  obtain ⟨f1, f2⟩ := h.fit r hr
  have e1 := rowS_of_rec K r f1 f2
  have hkm : r.key ∈ ks := hk.mem_iff.2 ((keysC_mem hok).2 ⟨_, hrow, e1⟩)
  obtain ⟨j, hj, ej⟩ := List.getElem_of_mem hkm
  obtain ⟨x, hx, ex⟩ := hl.key j hj
  rw [List.getD_eq_getElem?_getD, List.getElem?_eq_getElem hj, Option.getD_some, ej] at ex
  obtain ⟨x1, x2⟩ := hl.mem x hx
  obtain ⟨g1, g2⟩ := h.fit x x1
  have e2 := rowS_of_rec K x g1 g2
  rw [ex] at e2
  have := named_one hok x2 hrow e2 e1
  rw [← recRow_inj g1 g2 f1 f2 this]
  exact hx
/-- the texts that are there, of the first k -/
def hereTo (C : TxL) (bs : TxL) (k : Nat) : TxL := (bs.take k).filter (fun t => decide (blobRowS t ∈ C))
theorem here_succ {C bs : TxL} {k : Nat} (h : k < bs.length) : hereTo C bs (k + 1) = if blobRowS (bs.getD k []) ∈ C then hereTo C bs k ++ [bs.getD k []] else hereTo C bs k := by
  unfold hereTo
  rw [take_getD h, List.filter_append]
  generalize bs.getD k [] = x
  obtain ⟨p, hp⟩ : ∃ p : List UInt8 → Bool, p = fun t => decide (blobRowS t ∈ C) := ⟨_, rfl⟩
  have hx : p x = decide (blobRowS x ∈ C) := by rw [hp]
  rw [← hp]
  by_cases hc : blobRowS x ∈ C
  · rw [if_pos hc, List.filter_cons_of_pos (by rw [hx]; exact decide_eq_true hc)]
    rfl
  · rw [if_neg hc, List.filter_cons_of_neg (by rw [hx]; exact fun e => hc (of_decide_eq_true e)), List.filter_nil, List.append_nil]
theorem here_len (C bs : TxL) (k : Nat) : (hereTo C bs k).length ≤ bs.length := by
  unfold hereTo
  exact Nat.le_trans (List.length_filter_le _ _) (by rw [List.length_take]; omega)
/-- opened again -/
theorem PwI.again {K : List Int} {ds : List ActH} {i : Nat} {C C' ks Kp sure blobs : TxL} {safe recs left : List RecD} (h : PwI ds i C Kp sure blobs safe recs) (hsub : ∀ r ∈ C', r ∈ C) (hok : RowsOk K C') (hlen : C'.length ≤ i) (hl : LeftI C' ks recs ks.length left) (hk : ks.Perm (keysC K C')) :
    PwA ds i C' C' (hereTo C' blobs blobs.length) (hereTo C' blobs blobs.length) left left := by
  have hmem : ∀ t, t ∈ hereTo C' blobs blobs.length ↔ t ∈ blobs ∧ blobRowS t ∈ C' := fun t => by
    unfold hereTo
    rw [List.take_length, List.mem_filter, decide_eq_true_iff]
  have hle : (hereTo C' blobs blobs.length).length ≤ i := Nat.le_trans (here_len _ _ _) h.lb
  have hll : left.length ≤ i := by
    rw [hl.len, hk.length_eq]
    have := keysC_len hok.row
    omega
  refine ⟨⟨hle, hle, hll, hll, hlen, fun t ht => h.txt t ((hmem t).1 ht).1, fun r hr => h.fit r (hl.mem r hr).1, fun row hr => ?_, fun t ht => ⟨ht, ((hmem t).1 ht).2⟩, fun r hr => ⟨hr, (hl.mem r hr).2⟩, fun r hr => hr⟩, fun t ht => ((hmem t).1 ht).2, fun r hr => (hl.mem r hr).2⟩
  rcases h.src row (hsub row hr) with ⟨t, ht, rfl⟩ | ⟨r, hr2, rfl⟩
  · exact .inl ⟨t, (hmem t).2 ⟨ht, hr⟩, rfl⟩
  · exact .inr ⟨r, LeftI.all h hl hok hk hr2 hr, rfl⟩
theorem PwI.lenC {K : List Int} {ds : List ActH} {i : Nat} {C C' Kp sure blobs : TxL} {safe recs : List RecD} (h : PwI ds i C Kp sure blobs safe recs) (hsub : ∀ r ∈ C', r ∈ C) (hok : RowsOk K C') : C'.length ≤ i := by
  have := nodup_sub_len (rows_nodup hok) hsub
  have := h.lc
  omega

/-- the keys of a store -/
theorem keys_rows {K : List Int} {L : List HEnt} (h : ∀ e ∈ L, rowS K e.row = some (e.isB, e.id, e.row)) : recKeys (namesOf L) = keysC K (rowsOf L) := by
  induction L with
  | nil => rfl
  | cons e L ih =>
    have ih := ih (fun x hx => h x (by simp [hx]))
    have he := h e (by simp)
    unfold recKeys namesOf keysC rowsOf at ih ⊢
    rw [List.map_cons, List.map_cons, List.filterMap_cons, he]
    cases hb : e.isB with
    | true => simp only [List.filter_cons, Bool.not_true, Bool.false_eq_true, if_false]; exact ih
    | false => simp only [List.filter_cons, Bool.not_false, if_true, List.map_cons]; rw [ih]
def KeysPostC (K : List Int) (w : World) (C : TxL) (e : Ending) (w' : World) : Prop := ∃ (v : Value) (ks : TxL), e = .returned v ∧ ks.Perm (keysC K C) ∧ Bag0 w' w.heap.size 32 v ks.length ((ks.map byV).flatten) ∧ Below w.heap.size w w'
theorem p_keys {K : List Int} {w : World} {q : HvP} {n k : Nat} {A : Bool} {C Kp : TxL} {S : List Nat} (h : PBox K w q n k A C Kp S) (hl : C.length ≤ 1000) :
    Calls Tryd.prog 36 #[.pointer (some ⟨q.p, 0, none⟩)] w (KeysPostC K w C) := by
  obtain ⟨d, h1, h2, h3, h4, h5⟩ := h
  have hdl : d.L.length ≤ 1000 := by rw [← h3] at hl; unfold rowsOf at hl; rw [List.length_map] at hl; exact hl
  refine (keys_any q d w h1 hdl (fun ks _ => sortOk_any ks)).mono ?_
  rintro e w' ⟨v, ks, rfl, hp, -, hb, -, hB⟩
  rw [keys_rows (fun e he => (h2.ents e he).1), h3] at hp
  exact ⟨v, ks, rfl, hp, hb, hB⟩
/-- the shelf of a store is armed -/
theorem p_arm {K : List Int} {w : World} {q : HvP} {n k : Nat} {C Kp : TxL} {S : List Nat} (h : PBox K w q n k true C Kp S) (m : Nat) (hm : m ≤ 1000) :
    Calls Tryd.prog 35 #[.pointer (some ⟨q.b, 0, none⟩), .int .i64 m] w fun r w' => r = .returned (.tuple #[]) ∧ PBox K w' q n k true C Kp S ∧ Only S w w' := by
  obtain ⟨d, h1, h2, h3, h4, h5⟩ := h
  have hmem := @own_mem q d.L
  have hb : q.b ∈ S := h4 _ hmem.2.2.2.2.1
  have hg : q.g ∈ S := h4 _ hmem.2.2.2.2.2.1
  refine (arm_any q.b q.g d.s m w h1.sh ⟨by omega, by omega⟩).mono ?_
  rintro r w' ⟨rfl, hs, hO⟩
  have hO' : Only S w w' := hO.mono (fun x hx => by simp only [List.mem_cons, List.not_mem_nil, or_false] at hx; rcases hx with rfl | rfl; exact hb; exact hg)
  refine ⟨rfl, ⟨{ d with s := St.arm d.s m }, ?_, ?_, h3, h4, fun x hx => Nat.lt_of_lt_of_le (h5 x hx) hO.size⟩, hO'⟩
  · exact hv_shelf h1 hO hs
  · exact ⟨⟨h2.alive.down, by show (m : Int).toNat ≤ 1000; omega, (fun e => by cases e), h2.alive.acts, h2.alive.life, h2.alive.len⟩, h2.room, h2.dead, h2.life, h2.clk, h2.low, h2.ents, h2.names, h2.small, h2.slots, h2.kin⟩
end Go.Proofs.YteihfoacdocgkaaDoor

set_option linter.unusedVariables false
set_option linter.unusedSimpArgs false
namespace Go.Proofs.YteihfoacdocgkaaDoor
open Go.RowKit Pl Sh

/-- a list of the call's own: texts or records, its block, its value -/
inductive Item where
  | str (g : Nat) (v : Value) (ls : TxL)
  | rcd (g : Nat) (v : Value) (rs : List RecD)
def Item.at_ (w : World) : Item → Prop
  | .str g v ls => StrL w g v ls
  | .rcd g v rs => RecL w g v rs
def Item.g : Item → Nat
  | .str g _ _ => g
  | .rcd g _ _ => g
theorem Item.lt {w : World} : ∀ {x : Item}, x.at_ w → x.g < w.heap.size
  | .str g v ls, h => StrL.lt h
  | .rcd g v rs, h => RecL.lt h
theorem Item.keep {w w' : World} : ∀ {x : Item}, x.at_ w → w'.heap[x.g]? = w.heap[x.g]? → x.at_ w'
  | .str g v ls, h, hb => StrL.keep h hb
  | .rcd g v rs, h, hb => RecL.keep h hb
/-- lists side by side, apart from S, above B -/
structure Its (B : Nat) (w : World) (S : List Nat) (l : List Item) : Prop where
  all : ∀ x ∈ l, x.at_ w
  nd : (l.map Item.g).Nodup
  out : ∀ x ∈ l, x.g ∉ S ∧ B ≤ x.g
theorem its_nil (B : Nat) (w : World) (S : List Nat) : Its B w S [] := ⟨(fun x h => by cases h), List.nodup_nil, fun x h => by cases h⟩
theorem Its.only {B : Nat} {w w' : World} {S S' : List Nat} {l : List Item} (h : Its B w S l) (hO : Only S w w') (hS : ∀ x ∈ S', x ∈ S ∨ w.heap.size ≤ x) : Its B w' S' l :=
  ⟨fun x hx => Item.keep (h.all x hx) (hO.block x.g (Item.lt (h.all x hx)) (h.out x hx).1), h.nd, fun x hx => ⟨fun hm => by
    rcases hS _ hm with h1 | h1
    · exact (h.out x hx).1 h1
    · have := (Item.lt (h.all x hx)); omega, (h.out x hx).2⟩⟩
theorem Its.only' {B : Nat} {w w' : World} {S : List Nat} {l : List Item} (h : Its B w S l) (hO : Only S w w') : Its B w' S l := h.only hO (fun x hx => .inl hx)
theorem Its.below {B : Nat} {w w' : World} {S : List Nat} {l : List Item} (h : Its B w S l) (hb : Below w.heap.size w w') : Its B w' S l :=
  ⟨fun x hx => Item.keep (h.all x hx) (hb.block x.g (Item.lt (h.all x hx))), h.nd, h.out⟩
theorem Its.cons {B : Nat} {w w' : World} {S : List Nat} {l : List Item} {y : Item} (h : Its B w S l) (hB : B ≤ w.heap.size) (hS : ∀ x ∈ S, x < w.heap.size) (hb : Below w.heap.size w w') (hy : y.at_ w') (hg : w.heap.size ≤ y.g) : Its B w' S (y :: l) := by
  have h' := h.below hb
  refine ⟨fun x hx => ?_, ?_, fun x hx => ?_⟩
  · rcases List.mem_cons.1 hx with rfl | hx
    · exact hy
    · exact h'.all x hx
  · rw [List.map_cons, List.nodup_cons]
    refine ⟨fun hm => ?_, h.nd⟩
    obtain ⟨x, hx, e⟩ := List.mem_map.1 hm
    have := (Item.lt (h.all x hx))
    omega
  · rcases List.mem_cons.1 hx with rfl | hx
    · exact ⟨fun hm => by have := hS _ hm; omega, by omega⟩
    · exact h.out x hx
theorem Its.set {B : Nat} {w w' : World} {S : List Nat} {l : List Item} {x y : Item} (h : Its B w S l) (i : Nat) (hi : l[i]? = some x) (hS : ∀ z ∈ S, z < w.heap.size) (hB : B ≤ w.heap.size) (hy : y.at_ w') (hO : Only [x.g] w w') (hg : y.g = x.g ∨ w.heap.size ≤ y.g) : Its B w' S (l.set i y) := by
  have hx : x ∈ l := List.mem_of_getElem? hi
  have hnd := h.nd
  have hil := (List.getElem?_eq_some_iff.1 hi).1
  have hxe := (List.getElem?_eq_some_iff.1 hi).2
  have hoth : ∀ (j : Nat) (z : Item), l[j]? = some z → j ≠ i → z.g ≠ x.g := fun j z hz hj e => by
    have hjl := (List.getElem?_eq_some_iff.1 hz).1
    have hze := (List.getElem?_eq_some_iff.1 hz).2
    have := List.pairwise_iff_getElem.1 hnd
    rcases Nat.lt_trichotomy j i with h1 | h1 | h1
    · exact this j i (by simpa using hjl) (by simpa using hil) h1 (by simp [hze, hxe, e])
    · exact hj h1
    · exact this i j (by simpa using hil) (by simpa using hjl) h1 (by simp [hze, hxe, e])
  have hmem : ∀ z ∈ l.set i y, z = y ∨ ∃ j, l[j]? = some z ∧ j ≠ i := fun z hz => by
    obtain ⟨j, hj, e⟩ := List.getElem_of_mem hz
    rw [List.getElem_set] at e
    by_cases hji : i = j
    · rw [if_pos hji] at e; exact .inl e.symm
    · rw [if_neg hji] at e
      rw [List.length_set] at hj
      exact .inr ⟨j, by rw [List.getElem?_eq_getElem hj, e], fun e2 => hji e2.symm⟩
  refine ⟨fun z hz => ?_, ?_, fun z hz => ?_⟩
  · rcases hmem z hz with rfl | ⟨j, hj, hji⟩
    · exact hy
    · have hz' := h.all z (List.mem_of_getElem? hj)
      exact Item.keep hz' (hO.block z.g (Item.lt hz') (by simp only [List.mem_singleton]; exact hoth j z hj hji))
  · rw [List.map_set]
    refine List.pairwise_iff_getElem.2 (fun a b ha hb hab => ?_)
    rw [List.length_set, List.length_map] at ha hb
    have hya : ∀ (c : Nat) (hc : c < l.length), c ≠ i → (l[c]).g ≠ y.g := fun c hc hci e => by
      rcases hg with hg | hg
      · exact hoth c l[c] (List.getElem?_eq_getElem hc) hci (by rw [e, hg])
      · have := Item.lt (h.all l[c] (List.getElem_mem hc))
        omega
    rw [List.getElem_set, List.getElem_set]
    by_cases h1 : i = a
    · rw [if_pos h1, if_neg (by omega), List.getElem_map]
      exact fun e => hya b hb (by omega) e.symm
    · rw [if_neg h1, List.getElem_map]
      by_cases h2 : i = b
      · rw [if_pos h2]
        exact hya a ha (by omega)
      · rw [if_neg h2, List.getElem_map]
        have := List.pairwise_iff_getElem.1 hnd a b (by simpa using ha) (by simpa using hb) hab
        simpa using this
  · rcases hmem z hz with rfl | ⟨j, hj, hji⟩
    · rcases hg with hg | hg
      · rw [hg]; exact h.out x hx
      · exact ⟨fun hm => by have := hS _ hm; omega, by omega⟩
    · exact h.out z (List.mem_of_getElem? hj)
theorem Its.sub {B : Nat} {w : World} {S : List Nat} {l l' : List Item} (h : Its B w S l) (hs : l'.Sublist l) : Its B w S l' :=
  ⟨fun x hx => h.all x (hs.subset hx), h.nd.sublist (hs.map _), fun x hx => h.out x (hs.subset hx)⟩
theorem Its.perm {B : Nat} {w : World} {S : List Nat} {l l' : List Item} (h : Its B w S l) (hp : l'.Perm l) : Its B w S l' :=
  ⟨fun x hx => h.all x (hp.mem_iff.1 hx), (hp.map _).nodup_iff.2 h.nd, fun x hx => h.out x (hp.mem_iff.1 hx)⟩
theorem PBox.its {K : List Int} {B : Nat} {w w' : World} {q : HvP} {n k : Nat} {A : Bool} {C Kp : TxL} {S : List Nat} {l : List Item} {x : Item} (h : PBox K w q n k A C Kp S) (hi : Its B w S l) (hx : x ∈ l) (hO : Only [x.g] w w') : PBox K w' q n k A C Kp S :=
  h.apart hO (fun y hy hm => by simp only [List.mem_singleton] at hm; exact (hi.out x hx).1 (by rw [← hm]; exact hy))
theorem bag_new {w : World} {size : Nat} {T : TypeId} : Bag (w.alloc (.cells #[] T)) size w.heap.size 0 0 [] :=
  ⟨Nat.le_refl _, Nat.zero_le _, by simp, by simp, (fun j u h => by simp at h), fun j h => by simp at h⟩
theorem fill_allR {place : Nat → Option (Nat × Nat)} {cells R : Array Value} {n : Nat} (hp : place 0 = some (0, n)) (hc : cells.size = n) (hR : R.size = n) : Instr.fill place cells [(0, .agg R)] = some R := by
  have e := fold_cells_all R.toList cells.toList [] (by simp [hc, hR])
  simp only [List.append_nil] at e
  rw [fill_one hp (by show R.size = n; exact hR) (by omega) (C := R) ?_]
  · rfl
  · show R.zipIdx.foldl _ cells = R
    simpa using e
/-- a slice of one record -/
theorem wpList_rec1 {ops : Array Oper} {rest : List Oper} {o : Oper} {a : Act} {w : World} {Q : Exit → Act → World → Prop} (hg : o.guard = none) (x : Operand) (ho : o.op = .buildSlice 33 1 #[(0, x)]) (R : Array Value) (hx : a.eval x = .agg R) (hR : R.size = 65)
    (h : wpList Tryd.prog ops Q rest (a.put o.dst (.slice (some ⟨w.heap.size, 0, none⟩) 1 1)) (w.alloc (.cells R 26))) : wpList Tryd.prog ops Q (o :: rest) a w := by
  obtain ⟨i, hi, hz, hs, -⟩ := info_parts rec_info3
  refine wpList_buildSlice hg 33 26 1 _ ho R i _ Tryd.underlying33 hi hz (by rw [hs]; decide) (by rw [hs]; decide) ?_ h
  have e : ((#[(0, x)] : Array (Nat × Operand)).map fun (i, x) => (i, a.eval x)).toList = [(0, .agg R)] := by simp [hx]
  rw [e, hs]
  exact fill_allR rfl (by simp) hR
end Go.Proofs.YteihfoacdocgkaaDoor

set_option linter.unusedVariables false
set_option linter.unusedSimpArgs false
namespace Go.Proofs.YteihfoacdocgkaaDoor
open Go.RowKit Pl Sh

/-- a part of a nest of code: 0 the former, 1 the latter, 2 what is inside -/
def pick : List Nat → Code → Code
  | [], c => c
  | 0 :: l, .seq a _ => pick l a
  | 1 :: l, .seq _ b => pick l b
  | 2 :: l, .block _ c => pick l c
  | 2 :: l, .loop c => pick l c
  | _ :: _, c => c
noncomputable def powerBody : Code := Tryd.f9.body.getD .skip
/-- behind an act in which the power went -/
noncomputable def lossA : Code := pick [1, 1, 1, 1, 1, 1, 1, 1, 1, 1, 1, 1, 0, 1, 2, 2, 1, 0, 2, 1, 1, 1, 1] powerBody
/-- behind the loop over the blobs -/
noncomputable def lossB : Code := pick [1, 1, 1, 1, 1, 1, 1, 1, 1, 1, 1, 1, 0, 1, 2, 2, 1, 0, 2, 1, 1, 1, 1, 1, 1, 1, 1, 1, 1] powerBody
/-- behind the loop over the keys -/
noncomputable def lossC : Code := pick [1, 1, 1, 1, 1, 1, 1, 1, 1, 1, 1, 1, 0, 1, 2, 2, 1, 0, 2, 1, 1, 1, 1, 1, 1, 1, 1, 1, 1, 1, 1, 1] powerBody
/-- behind the loop over the sure records -/
noncomputable def lossD : Code := pick [1, 1, 1, 1, 1, 1, 1, 1, 1, 1, 1, 1, 0, 1, 2, 2, 1, 0, 2, 1, 1, 1, 1, 1, 1, 1, 1, 1, 1, 1, 1, 1, 1] powerBody

theorem DShelf.less {K : List Int} {w : World} {b g n k k' : Nat} {C Kp : TxL} (h : DShelf K w b g n k C Kp) (hk : k' ≤ k) : DShelf K w b g n k' C Kp := by
  obtain ⟨s, h1, h2⟩ := h
  have a := h2.acts
  have b := h2.room
  have c := h2.life
  exact ⟨s, h1, { h2 with acts := by omega, room := by omega, life := by omega }⟩
theorem put_defers (a : Act) (o : Option Tmp) (v : Value) : (a.put o v).defers = a.defers := by cases o <;> rfl
theorem hp_put {Q : Exit → Act → World → Prop} (hp : Hid (∀ c (a a2 : Act) W, a.defers = a2.defers → Q (.panic c) a W → Q (.panic c) a2 W)) {c : List PanicEntry} {a : Act} {o : Option Tmp} {v : Value} {w : World} (h : Q (.panic c) (a.put o v) w) : Q (.panic c) a w := hp.out c _ _ _ (put_defers a o v) h
def SmallActs (ds : List ActH) : Prop := ∀ (j : Nat) (h : j < ds.length), j < 70 → SmallAct ds[j]
/-- the power is there: the store, the lists -/
def RunSt (w wx : World) (q : HvP) (sb sg : Nat) (ds : List ActH) (i kb : Nat) (vs vb vf vr : Value) : Prop :=
  q.b = sb ∧ q.g = sg ∧ ∃ (C Kp : TxL) (S : List Nat) (sure blobs : TxL) (safe recs : List RecD) (gs gb gf gr : Nat),
    PBox KK wx q 128 kb true C Kp S ∧ (∀ x ∈ S, w.heap.size ≤ x) ∧ Its w.heap.size wx S [.str gs vs sure, .str gb vb blobs, .rcd gf vf safe, .rcd gr vr recs] ∧ PwA ds i C Kp sure blobs safe recs ∧ Below w.heap.size w wx
/-- the power went: the shelf, the lists -/
def LostSt (w wx : World) (sb sg : Nat) (ds : List ActH) (i kb : Nat) (vs vb vf vr : Value) : Prop :=
  ∃ (C Kp : TxL) (sure blobs : TxL) (safe recs : List RecD) (gs gb gf gr : Nat),
    DShelf KK wx sb sg 128 kb C Kp ∧ Its w.heap.size wx [sb, sg] [.str gs vs sure, .str gb vb blobs, .rcd gf vf safe, .rcd gr vr recs] ∧ PwI ds i C Kp sure blobs safe recs ∧ Below w.heap.size w wx
/-- behind the loss: what the opened store has -/
structure LoS (B : Nat) (ds : List ActH) (i sb sg : Nat) (q : HvP) (C Kp sure blobs : TxL) (safe recs : List RecD) (C' : TxL) (S : List Nat) : Prop where
  pw : PwI ds i C Kp sure blobs safe recs
  sub : ∀ r ∈ C', r ∈ C
  kp : ∀ r ∈ Kp, r ∈ C'
  inj : InjT KK ds
  qb : q.b = sb
  qg : q.g = sg
  lo : ∀ x ∈ S, B ≤ x
  hi : i ≤ 70
  ok : RowsOk KK C'
theorem LoS.there {B : Nat} {ds : List ActH} {i sb sg : Nat} {q : HvP} {C Kp sure blobs : TxL} {safe recs : List RecD} {C' : TxL} {S : List Nat} (h : LoS B ds i sb sg q C Kp sure blobs safe recs C' S) {t u : List UInt8} {ok : Bool} (ht : t ∈ blobs)
    (hyes : ok = true → ∃ row ∈ C', rowS KK row = some (true, hashB KK t, row) ∧ asBlobS row = (u, true)) (hno : ok = false → u = [] ∧ ∀ r ∈ C', rowS KK r ≠ some (true, hashB KK t, r)) :
    (ok = true ∧ blobRowS t ∈ C' ∧ u = t) ∨ (ok = false ∧ blobRowS t ∉ C') := by
  cases ok with
  | true =>
    obtain ⟨row, r1, r2, r3⟩ := hyes rfl
    obtain ⟨rfl, e⟩ := h.pw.rowB h.inj ht (h.sub _ r1) r2
    rw [e] at r3
    exact .inl ⟨rfl, r1, (Prod.mk.inj r3).1.symm⟩
  | false => exact .inr ⟨rfl, fun hm => (hno rfl).2 _ hm (rowS_of_blob KK t (h.pw.txt t ht).1)⟩
theorem LoS.len {B : Nat} {ds : List ActH} {i sb sg : Nat} {q : HvP} {C Kp sure blobs : TxL} {safe recs : List RecD} {C' : TxL} {S : List Nat} (h : LoS B ds i sb sg q C Kp sure blobs safe recs C' S) : C'.length ≤ 70 := Nat.le_trans (h.pw.lenC h.sub h.ok) h.hi
theorem StrL.cell {w : World} {g : Nat} {v : Value} {ls : TxL} (h : StrL w g v ls) (i : Nat) (hi : i < ls.length) : w.cell? ⟨g, i, none⟩ = some (.string ⟨ls[i].toArray⟩) := by
  obtain ⟨cap, -, hb⟩ := h.bag
  refine hb.holds i _ ?_
  unfold rowT
  rw [List.getElem?_map, List.getElem?_eq_getElem hi]
  rfl
theorem StrL.cellT {w : World} {g : Nat} {v : Value} {ls : TxL} {t : List UInt8} (h : StrL w g v ls) (i : Nat) (hi : i < ls.length) (ht : ls.getD i [] = t) : w.cell? ⟨g, i, none⟩ = some (.string ⟨t.toArray⟩) := by
  have e : ls[i] = t := by rw [List.getD_eq_getElem?_getD, List.getElem?_eq_getElem hi, Option.getD_some] at ht; exact ht
  rw [← e]
  exact h.cell i hi
theorem StrL.shape {w : World} {g : Nat} {v : Value} {ls : TxL} (h : StrL w g v ls) : ∃ cap, v = .slice (some ⟨g, 0, none⟩) ls.length cap := by
  obtain ⟨cap, e, -⟩ := h.bag
  exact ⟨cap, e⟩
theorem RecL.shape {w : World} {g : Nat} {v : Value} {rs : List RecD} (h : RecL w g v rs) : ∃ cap, v = .slice (some ⟨g, 0, none⟩) rs.length cap := by
  obtain ⟨cap, e, -⟩ := h.bag
  exact ⟨cap, e⟩
theorem strL_new {w : World} {T : TypeId} : StrL (w.alloc (.cells #[] T)) w.heap.size (.slice (some ⟨w.heap.size, 0, none⟩) 0 0) [] := ⟨⟨0, rfl, bag_new⟩⟩
theorem recL_new {w : World} {T : TypeId} : RecL (w.alloc (.cells #[] T)) w.heap.size (.slice (some ⟨w.heap.size, 0, none⟩) 0 0) [] := RecL.nil ⟨0, rfl, bag_new⟩
theorem one_src {w : World} {t : List UInt8} {T : TypeId} (hc : w.cell? ⟨T, 0, none⟩ = some (.string ⟨t.toArray⟩)) : Src Tryd.prog 1 49 (.slice (some ⟨T, 0, none⟩) 1 1) ([t] : TxL).length (rowT [t]) w := str_src _ 1 _ hc
theorem StrL.src {w : World} {g : Nat} {v : Value} {ls : TxL} (h : StrL w g v ls) : Src Tryd.prog 1 49 v ls.length (rowT ls) w := by
  obtain ⟨cap, rfl, hs⟩ := h.strs
  exact strs_src cap hs
theorem strs_take {w : World} {B : Nat} {A : Option Addr} {ls : TxL} (h : Strs w B A ls) (k : Nat) : Strs w B A (ls.take k) := fun i hi => by
  have hl : i < ls.length := by rw [List.length_take] at hi; omega
  obtain ⟨a, e, h1, h2⟩ := h i hl
  exact ⟨a, e, h1, by rw [List.getElem_take]; exact h2⟩
/-- keys of a list in a block between two sizes of the heap -/
def KeysAt (B0 B1 : Nat) (w : World) (A : Option Addr) (ks : TxL) : Prop := ∀ (i : Nat) (hi : i < ks.length), ∃ g, A = some ⟨g, 0, none⟩ ∧ B0 ≤ g ∧ g < B1 ∧ w.rangeAt g (i * 32) (byV ks[i])
theorem keysAt_of {B : Nat} {w : World} {v : Value} {ks : TxL} (h : Bag0 w B 32 v ks.length ((ks.map byV).flatten)) (h32 : ∀ k ∈ ks, k.length = 32) : ∃ (A : Option Addr) (c : Nat), v = .slice A ks.length c ∧ KeysAt B w.heap.size w A ks := by
  rcases h with ⟨h1, h2, h3⟩ | ⟨g, cap, h1, hg, hB⟩
  · exact ⟨none, 0, by rw [h1, h2], fun i hi => by omega⟩
  · refine ⟨some ⟨g, 0, none⟩, cap, h1, fun i hi => ⟨g, rfl, hg, hB.lt, fun k u hu => ?_⟩⟩
    have hk : k < 32 := by have := (List.getElem?_eq_some_iff.1 hu).1; rw [byV_length, h32 _ (List.getElem_mem hi)] at this; exact this
    refine hB.holds (i * 32 + k) u ?_
    rw [flat_at byV 32 ks (fun r hr => by rw [byV_length]; exact h32 r hr) i k hi hk]
    exact hu
theorem KeysAt.only {B0 B1 : Nat} {w w' : World} {A : Option Addr} {ks : TxL} {T : List Nat} (h : KeysAt B0 B1 w A ks) (hO : Only T w w') (hT : ∀ x ∈ T, x < B0 ∨ B1 ≤ x) (hB : B1 ≤ w.heap.size) : KeysAt B0 B1 w' A ks := fun i hi => by
  obtain ⟨g, e, h1, h2, h3⟩ := h i hi
  have hb := hO.block g (by omega) (fun hm => by have := hT g hm; omega)
  exact ⟨g, e, h1, h2, fun k u hu => (World.cell?_of_block (a := ⟨g, i * 32 + k, none⟩) hb).trans (h3 k u hu)⟩
theorem KeysAt.below {B0 B1 : Nat} {w w' : World} {A : Option Addr} {ks : TxL} (h : KeysAt B0 B1 w A ks) (hb : Below w.heap.size w w') (hB : B1 ≤ w.heap.size) : KeysAt B0 B1 w' A ks := fun i hi => by
  obtain ⟨g, e, h1, h2, h3⟩ := h i hi
  exact ⟨g, e, h1, h2, range_below h3 hb (by omega)⟩
theorem keys_32 {B : Nat} {ds : List ActH} {i sb sg : Nat} {q : HvP} {C Kp sure blobs : TxL} {safe recs : List RecD} {C' ks : TxL} {S : List Nat} (h : LoS B ds i sb sg q C Kp sure blobs safe recs C' S) (hk : ks.Perm (keysC KK C')) : ∀ k ∈ ks, k.length = 32 := fun k hm => by
  obtain ⟨row, h1, h2⟩ := (keysC_mem h.ok).1 (hk.mem_iff.1 hm)
  obtain ⟨r, r1, r2, r3, -⟩ := h.pw.recd (h.sub _ h1) h2
  rw [← r3]
  exact (h.pw.fit r r1).1.k
theorem keys_len {B : Nat} {ds : List ActH} {i sb sg : Nat} {q : HvP} {C Kp sure blobs : TxL} {safe recs : List RecD} {C' ks : TxL} {S : List Nat} (h : LoS B ds i sb sg q C Kp sure blobs safe recs C' S) (hk : ks.Perm (keysC KK C')) : ks.length ≤ 70 := by
  have := keysC_len h.ok.row
  have := h.len
  rw [hk.length_eq]
  omega
end Go.Proofs.YteihfoacdocgkaaDoor
