/-
  Layers 17 and 18, plain: from a node that serves a few frames in each tick, a blob comes: every number of chunks, every budget of 2 to 21.
-/
import Derived.Test.YtfbjbhddapoopaaDoorHaL
set_option linter.unusedVariables false
set_option linter.unusedSimpArgs false
namespace Go.Proofs.YtfbjbhddapoopaaDoor
open Go.RowKit

namespace Hl
def bare (c : Ck) : Ck := { c with data := [] }
def strip (d : HlD) : HlD := { d with blob := [], out := [], mani := d.mani.map (fun _ => (0, [])), cks := d.cks.map bare }
theorem askN_strip (cks : List Ck) : ∀ j, askN (cks.map bare) j = askN cks j
  | 0 => rfl
  | j + 1 => by
    rw [askN, askN, askN_strip cks j, List.getElem?_map]
    cases cks[j]? <;> rfl
theorem fillStep_strip (t : Int) (cks : List Ck) (m : Nat) (ats : List Int) (i : Nat) :
    fillStep t (cks.map bare, m, ats) i = ((fillStep t (cks, m, ats) i).1.map bare, (fillStep t (cks, m, ats) i).2.1, (fillStep t (cks, m, ats) i).2.2) := by
  unfold fillStep
  simp only [List.getElem?_map]
  cases cks[i]? with
  | none => rfl
  | some c =>
    show (if m < 2 ∧ c.come = false ∧ c.asked = false then _ else _) = _
    simp only
    split
    · simp [List.map_set, bare]
    · rfl
theorem fillAt_strip (t : Int) (cks : List Ck) (n : Nat) : ∀ j, fillAt t (cks.map bare) n j = ((fillAt t cks n j).1.map bare, (fillAt t cks n j).2.1, (fillAt t cks n j).2.2)
  | 0 => rfl
  | j + 1 => by rw [fillAt, fillAt_strip t cks n j, fillStep_strip]; rfl
theorem fill_strip (t : Int) (cks : List Ck) : fill t (cks.map bare) = ((fill t cks).1.map bare, (fill t cks).2) := by
  unfold fill
  rw [List.length_map, askN_strip, fillAt_strip]
theorem againStep_strip (t : Int) (cks : List Ck) (ats : List Int) (i : Nat) :
    againStep t (cks.map bare, ats) i = ((againStep t (cks, ats) i).1.map bare, (againStep t (cks, ats) i).2) := by
  unfold againStep
  simp only [List.getElem?_map]
  cases cks[i]? with
  | none => rfl
  | some c =>
    show (if c.asked = true ∧ 3 ≤ t - c.at_ then _ else _) = _
    simp only
    split
    · simp [List.map_set, bare]
    · rfl
theorem againAt_strip (t : Int) (cks : List Ck) : ∀ j, againAt t (cks.map bare) j = ((againAt t cks j).1.map bare, (againAt t cks j).2)
  | 0 => rfl
  | j + 1 => by rw [againAt, againAt_strip t cks j, againStep_strip]; rfl
theorem again_strip (t : Int) (cks : List Ck) : again t (cks.map bare) = ((again t cks).1.map bare, (again t cks).2) := by
  unfold again
  rw [List.length_map, againAt_strip]
theorem tick_strip (d : HlD) : tick (strip d) = (strip (tick d).1, (tick d).2) := by
  unfold tick
  show (if d.done = true ∨ d.failed = true then (strip d, []) else if 14 < d.ticks + 1 then _ else _) = _
  split
  · rfl
  · split
    · rfl
    · cases hq : d.mani with
      | none =>
        have : (strip d).mani = none := by show d.mani.map _ = none; rw [hq]; rfl
        rw [this]
        show (if (d.ticks + 1) % 3 = 1 then _ else _) = _
        simp only
        split <;> rfl
      | some sp =>
        have e0 : (strip d).mani = some (0, []) := by show d.mani.map _ = _; rw [hq]; rfl
        have e1 : again ((strip d).ticks + 1) (strip d).cks = ((again (d.ticks + 1) d.cks).1.map bare, (again (d.ticks + 1) d.cks).2) := again_strip (d.ticks + 1) d.cks
        have e2 : fill ((strip d).ticks + 1) ((again (d.ticks + 1) d.cks).1.map bare) = ((fill (d.ticks + 1) (again (d.ticks + 1) d.cks).1).1.map bare, (fill (d.ticks + 1) (again (d.ticks + 1) d.cks).1).2) := fill_strip (d.ticks + 1) _
        rw [e0]
        simp only [e1, e2]
        simp [strip, hq]

def abSettle (a : HlD) : HlD × List Int :=
  if allCome a.cks = true then ({ a with done := true }, []) else ({ a with cks := (fill a.ticks a.cks).1 }, (fill a.ticks a.cks).2)
/-- the own manifest, of n chunks, comes -/
def abMani (n : Nat) (a : HlD) : HlD × List Int :=
  if a.done = true ∨ a.failed = true then (a, []) else
  match a.mani with
  | some _ => (a, [])
  | none => abSettle { a with mani := some (0, []), cks := List.replicate n ⟨[], false, false, 0⟩ }
/-- the own part i comes -/
def abPart (i : Nat) (a : HlD) : HlD × List Int :=
  if a.done = true ∨ a.failed = true then (a, []) else
  match a.mani with
  | none => (a, [])
  | some _ => match a.cks[i]? with
    | some c => if c.come = true then (a, []) else abSettle { a with cks := a.cks.set i ⟨[], true, false, 0⟩ }
    | none => (a, [])

structure Own (K : List Int) (l : List UInt8) (d : HlD) : Prop where
  out : d.out = hashB K l
  mani : ∀ sp, d.mani = some sp → sp = ((l.length : Int), (chunks l).map (hashB K)) ∧ d.cks.length = (chunks l).length
  data : ∀ (i : Nat) (c : Ck), d.cks[i]? = some c → c.come = true → c.data = chunk l i
  blob : d.done = true → d.blob = l

theorem fillAt_come (t : Int) (cks : List Ck) (n : Nat) : ∀ j (i : Nat) (c : Ck), (fillAt t cks n j).1[i]? = some c → ∃ c0, cks[i]? = some c0 ∧ c.come = c0.come ∧ c.data = c0.data
  | 0, i, c, h => ⟨c, h, rfl, rfl⟩
  | j + 1, i, c, h => by
    have ih := fillAt_come t cks n j
    rw [fillAt] at h
    unfold fillStep at h
    split at h
    · rename_i x hx
      split at h
      · rcases Nat.lt_trichotomy i j with hij | hij | hij
        · rw [List.getElem?_set_ne (by omega)] at h; exact ih i c h
        · subst hij
          rw [List.getElem?_set_self (List.getElem?_eq_some_iff.1 hx).1] at h
          obtain ⟨c0, h0, e1, e2⟩ := ih i x hx
          obtain rfl := Option.some.inj h
          exact ⟨c0, h0, e1, e2⟩
        · rw [List.getElem?_set_ne (by omega)] at h; exact ih i c h
      · exact ih i c h
    · exact ih i c h
theorem againAt_come (t : Int) (cks : List Ck) : ∀ j (i : Nat) (c : Ck), (againAt t cks j).1[i]? = some c → ∃ c0, cks[i]? = some c0 ∧ c.come = c0.come ∧ c.data = c0.data
  | 0, i, c, h => ⟨c, h, rfl, rfl⟩
  | j + 1, i, c, h => by
    have ih := againAt_come t cks j
    rw [againAt] at h
    unfold againStep at h
    split at h
    · rename_i x hx
      split at h
      · rcases Nat.lt_trichotomy i j with hij | hij | hij
        · rw [List.getElem?_set_ne (by omega)] at h; exact ih i c h
        · subst hij
          rw [List.getElem?_set_self (List.getElem?_eq_some_iff.1 hx).1] at h
          obtain ⟨c0, h0, e1, e2⟩ := ih i x hx
          obtain rfl := Option.some.inj h
          exact ⟨c0, h0, e1, e2⟩
        · rw [List.getElem?_set_ne (by omega)] at h; exact ih i c h
      · exact ih i c h
    · exact ih i c h
theorem Own.cks {K : List Int} {l : List UInt8} {d : HlD} (h : Own K l d) {cs : List Ck} (hl : cs.length = d.cks.length) (hc : ∀ (i : Nat) (c : Ck), cs[i]? = some c → ∃ c0, d.cks[i]? = some c0 ∧ c.come = c0.come ∧ c.data = c0.data) : Own K l { d with cks := cs } :=
  ⟨h.out, fun sp e => ⟨(h.mani sp e).1, by show cs.length = _; rw [hl]; exact (h.mani sp e).2⟩, fun i c hi hcm => by
    obtain ⟨c0, h0, e1, e2⟩ := hc i c hi
    rw [e2]; exact h.data i c0 h0 (by rw [← e1]; exact hcm), h.blob⟩
theorem Own.fill {K : List Int} {l : List UInt8} {d : HlD} (h : Own K l d) (t : Int) : Own K l { d with cks := (fill t d.cks).1 } := h.cks (fill_len _ _) (fun i c hi => fillAt_come _ _ _ _ i c hi)
theorem Own.again {K : List Int} {l : List UInt8} {d : HlD} (h : Own K l d) (t : Int) : Own K l { d with cks := (again t d.cks).1 } := h.cks (again_len _ _) (fun i c hi => againAt_come _ _ _ i c hi)
theorem own_new (K : List Int) (l : List UInt8) (peer : Int) : Own K l (new (hashB K l) peer) := ⟨rfl, (fun _ e => by cases e), (fun i c hi => by simp [new] at hi), (fun e => by cases e)⟩
theorem own_tick {K : List Int} {l : List UInt8} {d : HlD} (h : Own K l d) : Own K l (tick d).1 := by
  unfold tick
  split
  · exact h
  · split
    · exact ⟨h.out, h.mani, h.data, h.blob⟩
    · split
      · exact ((Own.again (d := { d with ticks := d.ticks + 1 }) ⟨h.out, h.mani, h.data, h.blob⟩ (d.ticks + 1)).fill (d.ticks + 1))
      · split <;> exact ⟨h.out, h.mani, h.data, h.blob⟩
theorem allCome_strip (cks : List Ck) : allCome (cks.map bare) = allCome cks := by
  unfold allCome
  rw [List.all_map]
  rfl
theorem own_settle {K : List Int} {l : List UInt8} {d : HlD} (hl : l.length ≤ 512) (h : Own K l d) (sp : Int × List (List UInt8)) (hsp : d.mani = some sp) (hdn : d.done = false) (hfl : d.failed = false) :
    Own K l (settle K d sp).1 ∧ strip (settle K d sp).1 = (abSettle (strip d)).1 ∧ (settle K d sp).2 = (abSettle (strip d)).2 := by
  obtain ⟨rfl, hlen⟩ := h.mani sp hsp
  have hm : OwnM K (mk d.out ((l.length : Int), (chunks l).map (hashB K))) l := ⟨h.out, rfl, rfl⟩
  unfold settle abSettle
  have e1 : allCome (strip d).cks = allCome d.cks := allCome_strip d.cks
  rw [e1]
  by_cases hc : allCome d.cks = true
  · have hd : d.cks.map (·.data) = chunks l := by
      apply List.ext_getElem?
      intro i
      rw [List.getElem?_map]
      rcases Nat.lt_or_ge i d.cks.length with hi | hi
      · rw [List.getElem?_eq_getElem hi, List.getElem?_eq_getElem (by omega), chunks_get]
        have hx : d.cks[i]? = some d.cks[i] := List.getElem?_eq_getElem hi
        have hcm : (d.cks[i]).come = true := by
          unfold allCome at hc
          rw [List.all_eq_true] at hc
          exact hc _ (List.getElem_mem hi)
        show some (d.cks[i]).data = _
        rw [h.data i _ hx hcm]
      · rw [List.getElem?_eq_none hi, List.getElem?_eq_none (by omega)]; rfl
    rw [if_pos hc, if_pos hc, hd, hm.join hl]
    refine ⟨⟨h.out, h.mani, h.data, fun _ => rfl⟩, ?_, rfl⟩
    simp [strip, hfl]
  · rw [if_neg hc, if_neg hc]
    have e2 : fill (strip d).ticks (strip d).cks = _ := fill_strip d.ticks d.cks
    rw [e2]
    exact ⟨h.fill _, rfl, rfl⟩
theorem hear_shut {K : List Int} {d : HlD} {f : FrD} (h : d.done = true ∨ d.failed = true) : hearOf K d f = (d, []) := by
  unfold hearOf hear
  rw [if_pos (by rcases h with h | h; exact .inl h; exact .inr (.inl h))]
theorem hear_had7 {K : List Int} {d : HlD} {f : FrD} (hdn : d.done = false) (hfl : d.failed = false) (hp : f.from_ = d.peer) (h7 : f.kind = 7) {sp : Int × List (List UInt8)} (hmn : d.mani = some sp) : hearOf K d f = (d, []) := by
  unfold hearOf hear
  rw [if_neg (by simp [hdn, hfl, hp]), if_pos h7, hmn]
theorem hear_open7 {K : List Int} {d : HlD} {f : FrD} (hdn : d.done = false) (hfl : d.failed = false) (hp : f.from_ = d.peer) (h7 : f.kind = 7) (hmn : d.mani = none) (hg : goodS f.mani.size f.mani.parts.length = true) (hw : f.mani.whole = d.out) :
    hearOf K d f = settle K (withMani d f) (f.mani.size, f.mani.parts) := by
  unfold hearOf hear
  rw [if_neg (by simp [hdn, hfl, hp]), if_pos h7, hmn]
  simp only
  rw [if_pos ⟨hg, hw⟩]
  rfl
theorem hear_none8 {K : List Int} {d : HlD} {f : FrD} (hdn : d.done = false) (hfl : d.failed = false) (hp : f.from_ = d.peer) (h8 : f.kind = 8) (hmn : d.mani = none) : hearOf K d f = (d, []) := by
  unfold hearOf hear
  rw [if_neg (by simp [hdn, hfl, hp]), if_neg (by rw [h8]; decide), if_pos h8, hmn]
theorem hear_open8 {K : List Int} {d : HlD} {f : FrD} (hdn : d.done = false) (hfl : d.failed = false) (hp : f.from_ = d.peer) (h8 : f.kind = 8) {sp : Int × List (List UInt8)} (hmn : d.mani = some sp) :
    hearOf K d f = if takes K d sp f.out f.at_ f.data = true then settle K { d with cks := d.cks.set f.at_.toNat ⟨f.data, true, false, 0⟩ } sp else (d, []) := by
  unfold hearOf hear
  rw [if_neg (by simp [hdn, hfl, hp]), if_neg (by rw [h8]; decide), if_pos h8, hmn]
theorem strip_mani {d : HlD} {sp : Int × List (List UInt8)} (h : d.mani = some sp) : (strip d).mani = some (0, []) := by show d.mani.map _ = _; rw [h]; rfl
theorem strip_none {d : HlD} (h : d.mani = none) : (strip d).mani = none := by show d.mani.map _ = _; rw [h]; rfl
/-- what a frame makes of a fetch of an own blob, and what the like makes of one that looks at no data -/
structure Goes (K : List Int) (l : List UInt8) (r a : HlD × List Int) : Prop where
  own : Own K l r.1
  same : strip r.1 = a.1
  ats : r.2 = a.2
theorem own_mani {K : List Int} {l : List UInt8} {d : HlD} {m : ManiD} (hl : l.length ≤ 512) (hm : OwnM K m l) (h : Own K l d) : Goes K l (hearOf K d (maniFr d.peer m)) (abMani (chunks l).length (strip d)) := by
  by_cases hc : d.done = true ∨ d.failed = true
  · rw [hear_shut hc]
    unfold abMani
    rw [if_pos (show (strip d).done = true ∨ (strip d).failed = true from hc)]
    exact ⟨h, rfl, rfl⟩
  · have hdn : d.done = false := by cases hq : d.done <;> simp_all
    have hfl : d.failed = false := by cases hq : d.failed <;> simp_all
    unfold abMani
    rw [if_neg (show ¬ ((strip d).done = true ∨ (strip d).failed = true) from hc)]
    cases hq : d.mani with
    | some sp =>
      rw [hear_had7 (f := maniFr d.peer m) hdn hfl rfl rfl hq, strip_mani hq]
      exact ⟨h, rfl, rfl⟩
    | none =>
      rw [hear_open7 (f := maniFr d.peer m) hdn hfl rfl rfl hq (hm.good hl) (hm.whole.trans h.out.symm), strip_none hq]
      have hn : m.parts.length = (chunks l).length := by rw [hm.parts, List.length_map]
      have hown : Own K l (withMani d (maniFr d.peer m)) :=
        ⟨h.out, fun sp e => by obtain rfl := Option.some.inj e; exact ⟨by show (m.size, m.parts) = _; rw [hm.size, hm.parts], by show (List.replicate m.parts.length _).length = _; simp [hn]⟩, (fun i c hi hcm => by
          have := List.mem_of_getElem? hi
          obtain rfl := (List.mem_replicate.1 this).2
          cases hcm), (fun e => by rw [show (withMani d (maniFr d.peer m)).done = d.done from rfl, hdn] at e; cases e)⟩
      obtain ⟨a1, a2, a3⟩ := own_settle hl hown (m.size, m.parts) rfl hdn hfl
      have es : strip (withMani d (maniFr d.peer m)) = { strip d with mani := some (0, []), cks := List.replicate (chunks l).length ⟨[], false, false, 0⟩ } := by
        have e1 : (maniFr d.peer m).mani.parts.length = (chunks l).length := hn
        simp [strip, withMani, e1, bare]
      rw [es] at a2 a3
      exact ⟨a1, a2, a3⟩
theorem own_part {K : List Int} {l : List UInt8} {d : HlD} (hl : l.length ≤ 512) (i : Nat) (hi : i < (chunks l).length) (h : Own K l d) : Goes K l (hearOf K d (partFr d.peer (hashB K l) (i : Int) (chunk l i))) (abPart i (strip d)) := by
  by_cases hc : d.done = true ∨ d.failed = true
  · rw [hear_shut hc]
    unfold abPart
    rw [if_pos (show (strip d).done = true ∨ (strip d).failed = true from hc)]
    exact ⟨h, rfl, rfl⟩
  · have hdn : d.done = false := by cases hq : d.done <;> simp_all
    have hfl : d.failed = false := by cases hq : d.failed <;> simp_all
    unfold abPart
    rw [if_neg (show ¬ ((strip d).done = true ∨ (strip d).failed = true) from hc)]
    cases hq : d.mani with
    | none =>
      rw [hear_none8 (f := partFr d.peer (hashB K l) (i : Int) (chunk l i)) hdn hfl rfl rfl hq, strip_none hq]
      exact ⟨h, rfl, rfl⟩
    | some sp =>
      rw [hear_open8 (f := partFr d.peer (hashB K l) (i : Int) (chunk l i)) hdn hfl rfl rfl hq, strip_mani hq]
      obtain ⟨rfl, hlen⟩ := h.mani sp hq
      have hm : OwnM K (mk d.out ((l.length : Int), (chunks l).map (hashB K))) l := ⟨h.out, rfl, rfl⟩
      have hx : d.cks[i]? = some (d.cks[i]'(by omega)) := List.getElem?_eq_getElem (by omega)
      obtain ⟨x, hxx⟩ : ∃ x, x = d.cks[i]'(by omega) := ⟨_, rfl⟩
      rw [← hxx] at hx
      have ht : takes K d ((l.length : Int), (chunks l).map (hashB K)) (partFr d.peer (hashB K l) (i : Int) (chunk l i)).out (partFr d.peer (hashB K l) (i : Int) (chunk l i)).at_ (partFr d.peer (hashB K l) (i : Int) (chunk l i)).data = !x.come := by
        unfold takes
        have e1 : ((partFr d.peer (hashB K l) (i : Int) (chunk l i)).out == d.out) = true := by rw [h.out]; simp [partFr]
        have e2 : fitsS K (mk d.out ((l.length : Int), (chunks l).map (hashB K))) (partFr d.peer (hashB K l) (i : Int) (chunk l i)).at_ (partFr d.peer (hashB K l) (i : Int) (chunk l i)).data = true := hm.fits_own hl i hi
        have e3 : d.cks[(partFr d.peer (hashB K l) (i : Int) (chunk l i)).at_.toNat]? = some x := hx
        rw [e1, e2, e3]
        simp
      have es : (strip d).cks[i]? = some (bare x) := by show (d.cks.map bare)[i]? = _; rw [List.getElem?_map, hx]; rfl
      rw [ht]
      simp only [es]
      rw [show (bare x).come = x.come from rfl]
      cases hcm : x.come with
      | true =>
        rw [if_neg (by simp), if_pos rfl]
        exact ⟨h, rfl, rfl⟩
      | false =>
        rw [if_pos (by simp), if_neg (by simp)]
        have hown : Own K l { d with cks := d.cks.set i ⟨chunk l i, true, false, 0⟩ } :=
          ⟨h.out, fun sp e => ⟨(h.mani sp e).1, by simp [hlen]⟩, fun j c hj hcj => by
            by_cases hji : j = i
            · subst hji
              have hj' : (d.cks.set j ⟨chunk l j, true, false, 0⟩)[j]? = some c := hj
              rw [List.getElem?_set_self (by omega)] at hj'
              obtain rfl := Option.some.inj hj'
              rfl
            · have hj' : (d.cks.set i ⟨chunk l i, true, false, 0⟩)[j]? = some c := hj
              rw [List.getElem?_set_ne (by omega)] at hj'
              exact h.data j c hj' hcj, h.blob⟩
        obtain ⟨a1, a2, a3⟩ := own_settle hl hown ((l.length : Int), (chunks l).map (hashB K)) hq hdn hfl
        have es2 : strip { d with cks := d.cks.set i ⟨chunk l i, true, false, 0⟩ } = { strip d with mani := some (0, []), cks := (strip d).cks.set i ⟨[], true, false, 0⟩ } := by
          simp [strip, List.map_set, bare, hq]
        rw [es2] at a2 a3
        exact ⟨a1, a2, a3⟩
theorem own_none {K : List Int} {l : List UInt8} {d : HlD} (f : FrD) (h : hearOf K d f = (d, [])) (ho : Own K l d) : Own K l (hearOf K d f).1 := by rw [h]; exact ho
end Hl
end Go.Proofs.YtfbjbhddapoopaaDoor

set_option linter.unusedVariables false
set_option linter.unusedSimpArgs false
namespace Go.Proofs.YtfbjbhddapoopaaDoor
open Go.RowKit

namespace Hl
structure Tru (K : List Int) (o : List UInt8) (d : HlD) : Prop where
  out : d.out = o
  done : d.done = true → d.failed = false ∧ hashB K d.blob = o
  undone : d.done = false → d.blob = []
  len : d.blob.length ≤ 512
theorem tru_new (K : List Int) (o : List UInt8) (peer : Int) : Tru K o (new o peer) := ⟨rfl, (fun e => by cases e), (fun _ => rfl), by show 0 ≤ 512; decide⟩
theorem tru_tick {K : List Int} {o : List UInt8} {d : HlD} (h : Tru K o d) : Tru K o (tick d).1 := by
  unfold tick
  split
  · exact h
  · rename_i hc
    have hdn : d.done = false := by cases hq : d.done <;> simp_all
    split
    · exact ⟨h.out, (fun e => by rw [show ({ d with ticks := d.ticks + 1, failed := true } : HlD).done = d.done from rfl, hdn] at e; cases e), h.undone, h.len⟩
    · split
      · exact ⟨h.out, h.done, h.undone, h.len⟩
      · split <;> exact ⟨h.out, h.done, h.undone, h.len⟩
theorem joinS_len (K : List Int) (m : ManiD) (ts : List (List UInt8)) : (joinS K m ts).1.length ≤ 512 := by
  unfold joinS
  split
  · rename_i hg
    split
    · rename_i hf
      split
      · obtain ⟨hg1, hg2⟩ := hg
        unfold goodS at hg1
        simp only [decide_eq_true_eq] at hg1
        have h64 : ∀ t ∈ ts, t.length ≤ 64 := by
          intro t ht
          obtain ⟨i, hi, rfl⟩ := List.mem_iff_getElem.1 ht
          rw [List.all_eq_true] at hf
          have h := hf i (List.mem_range.2 hi)
          have e : ts.getD i [] = ts[i] := by simp [List.getD, hi]
          rw [e] at h
          exact (fitsS_in h).2.2
        have h8 := flat_le ts 64 h64
        show ts.flatten.length ≤ 512
        have : ts.length ≤ 8 := by omega
        omega
      · simp
    · simp
  · simp
theorem tru_settle {K : List Int} {o : List UInt8} {d : HlD} (h : Tru K o d) (hdn : d.done = false) (sp : Int × List (List UInt8)) : Tru K o (settle K d sp).1 := by
  unfold settle
  split
  · have hj : (joinS K (mk d.out sp) (d.cks.map (·.data))).2 = 0 ∧ hashB K (joinS K (mk d.out sp) (d.cks.map (·.data))).1 = d.out ∨ (joinS K (mk d.out sp) (d.cks.map (·.data))).2 ≠ 0 ∧ (joinS K (mk d.out sp) (d.cks.map (·.data))).1 = [] := by
      unfold joinS
      split
      · split
        · split
          · rename_i hw
            exact .inl ⟨rfl, hw⟩
          · exact .inr ⟨by decide, rfl⟩
        · exact .inr ⟨by decide, rfl⟩
      · exact .inr ⟨by decide, rfl⟩
    have hjl := joinS_len K (mk d.out sp) (d.cks.map (·.data))
    obtain ⟨j, hjj⟩ : ∃ j, j = joinS K (mk d.out sp) (d.cks.map (·.data)) := ⟨_, rfl⟩
    rw [← hjj] at hj hjl ⊢
    rcases hj with ⟨h1, h2⟩ | ⟨h1, h2⟩
    · refine ⟨h.out, fun _ => ⟨by simp [h1], by rw [← h.out]; exact h2⟩, fun e => ?_, hjl⟩
      simp [h1] at e
    · refine ⟨h.out, fun e => ?_, fun _ => h2, hjl⟩
      simp [h1] at e
  · exact ⟨h.out, h.done, h.undone, h.len⟩
theorem hear_cases (K : List Int) (d : HlD) (f : FrD) : hearOf K d f = (d, []) ∨ (d.done = false ∧ d.failed = false ∧ ∃ d' sp, hearOf K d f = settle K d' sp ∧ d'.out = d.out ∧ d'.done = d.done ∧ d'.blob = d.blob ∧ d'.failed = d.failed ∧ d'.ticks = d.ticks ∧ d'.peer = d.peer) := by
  by_cases hc : d.done = true ∨ d.failed = true
  · exact .inl (hear_shut hc)
  · have hdn : d.done = false := by cases hq : d.done <;> simp_all
    have hfl : d.failed = false := by cases hq : d.failed <;> simp_all
    unfold hearOf hear
    split
    · exact .inl rfl
    · split
      · split
        · exact .inl rfl
        · split
          · exact .inr ⟨hdn, hfl, _, _, rfl, rfl, rfl, rfl, rfl, rfl, rfl⟩
          · exact .inl rfl
      · split
        · split
          · exact .inl rfl
          · split
            · exact .inr ⟨hdn, hfl, _, _, rfl, rfl, rfl, rfl, rfl, rfl, rfl⟩
            · exact .inl rfl
        · exact .inl rfl
theorem tru_hear {K : List Int} {o : List UInt8} {d : HlD} (h : Tru K o d) (f : FrD) : Tru K o (hearOf K d f).1 := by
  rcases hear_cases K d f with e | ⟨hdn, hfl, d', sp, e, e1, e2, e3, e4, e5, e6⟩
  · rw [e]; exact h
  · rw [e]
    exact tru_settle ⟨e1.trans h.out, fun x => by rw [e2] at x; rw [e4, e3]; exact h.done x, fun x => by rw [e2] at x; rw [e3]; exact h.undone x, by rw [e3]; exact h.len⟩ (by rw [e2]; exact hdn) sp
theorem fillAt_two (t : Int) (cks : List Ck) (n : Nat) : ∀ j, (fillAt t cks n j).2.2.length + n = (fillAt t cks n j).2.1 ∧ ((fillAt t cks n j).2.1 ≤ 2 ∨ (fillAt t cks n j).2.2 = [])
  | 0 => ⟨by simp [fillAt], .inr rfl⟩
  | j + 1 => by
    obtain ⟨h1, h2⟩ := fillAt_two t cks n j
    rw [fillAt]
    unfold fillStep
    split
    · split
      · rename_i hc
        refine ⟨by simp only [List.length_append, List.length_singleton]; omega, .inl (by simp only; omega)⟩
      · exact ⟨h1, h2⟩
    · exact ⟨h1, h2⟩
theorem fill_two (t : Int) (cks : List Ck) : (fill t cks).2.length ≤ 2 := by
  obtain ⟨h1, h2⟩ := fillAt_two t cks (askN cks cks.length) cks.length
  unfold fill
  simp only
  rcases h2 with h2 | h2
  · omega
  · rw [h2]; simp
theorem hear_two (K : List Int) (d : HlD) (f : FrD) : (hearOf K d f).2.length ≤ 2 := by
  rcases hear_cases K d f with e | ⟨-, -, d', sp, e, -⟩
  · rw [e]; simp
  · rw [e]
    unfold settle
    split
    · simp
    · exact fill_two _ _
def over (d : HlD) : Bool := d.done || d.failed
theorem over_or {d : HlD} : over d = true ↔ d.done = true ∨ d.failed = true := by unfold over; simp
theorem over_hear (K : List Int) {d : HlD} (f : FrD) (h : over d = true) : hearOf K d f = (d, []) := hear_shut (over_or.1 h)
theorem over_tick {d : HlD} (h : over d = true) : tick d = (d, []) := by unfold tick; rw [if_pos (over_or.1 h)]
theorem over_after_hear (K : List Int) {d : HlD} (f : FrD) (h : over d = true) : over (hearOf K d f).1 = true := by rw [over_hear K f h]; exact h
theorem over_after_tick {d : HlD} (h : over d = true) : over (tick d).1 = true := by rw [over_tick h]; exact h
/-- as long as it is open its own count of ticks is the number of ticks -/
def Count (d : HlD) (n : Nat) : Prop := over d = false → d.ticks = n
theorem count_tick {d : HlD} {n : Nat} (h : Count d n) : Count (tick d).1 (n + 1) := by
  intro ho
  by_cases hc : over d = true
  · rw [over_tick hc, hc] at ho; cases ho
  · have hc' : over d = false := by simpa using hc
    have e := h hc'
    have hn : ¬ (d.done = true ∨ d.failed = true) := fun hh => hc (over_or.2 hh)
    unfold tick at ho ⊢
    rw [if_neg hn] at ho ⊢
    split
    · show d.ticks + 1 = _; omega
    · split
      · show d.ticks + 1 = _; omega
      · split <;> (show d.ticks + 1 = _; omega)
theorem settle_ticks (K : List Int) (d : HlD) (sp : Int × List (List UInt8)) : (settle K d sp).1.ticks = d.ticks := by unfold settle; split <;> rfl
theorem count_hear {K : List Int} {d : HlD} {n : Nat} (f : FrD) (h : Count d n) : Count (hearOf K d f).1 n := by
  intro ho
  rcases hear_cases K d f with e | ⟨hdn, hfl, d', sp, e, -, -, -, -, e5, -⟩
  · rw [e] at ho ⊢; exact h ho
  · rw [e, settle_ticks, e5]
    exact h (by unfold over; rw [hdn, hfl]; rfl)
/-- after 15 ticks it is at its end -/
theorem count_end {d : HlD} {n : Nat} (ok : Ok d) (h : Count d n) (hn : 15 ≤ n) : over d = true := by
  cases ho : over d with
  | true => rfl
  | false =>
    have e := h ho
    have hf : d.failed = false := by unfold over at ho; simp at ho; exact ho.2
    have := ok.open14 hf
    omega
end Hl
end Go.Proofs.YtfbjbhddapoopaaDoor

set_option linter.unusedVariables false
set_option linter.unusedSimpArgs false
namespace Go.Proofs.YtfbjbhddapoopaaDoor
open Go.RowKit

/-- a queue: at whatever offset of a block of its own -/
structure QueAt (w : World) (g off cap : Nat) (cs : List Value) (n : Nat) : Prop where
  le : n ≤ cap
  max : cap ≤ maxLen
  lt : g < w.heap.size
  len : cs.length = n * 238
  holds : ∀ j u, cs[j]? = some u → w.cell? ⟨g, off + j, none⟩ = some u
  there : ∀ j, j < cap * 238 → (w.cell? ⟨g, off + j, none⟩).isSome = true ∧ w.frozen? ⟨g, off + j, none⟩ = false
def Que (w : World) (v : Value) (pe : Int) (out : List UInt8) (ats : List Int) : Prop :=
  (v = .slice none 0 0 ∧ ats = []) ∨ ∃ g off cap, v = .slice (some ⟨g, off, none⟩) ats.length cap ∧ QueAt w g off cap (asksCells pe out ats) ats.length
theorem Que.of_asks {w : World} {B : Nat} {v : Value} {pe : Int} {out : List UInt8} {ats : List Int} (h : Asks w B v pe out ats) : Que w v pe out ats := by
  rcases h with ⟨h1, h2, -⟩ | ⟨g, cap, h1, -, hb⟩
  · exact .inl ⟨h1, List.eq_nil_of_length_eq_zero h2⟩
  · exact .inr ⟨g, 0, cap, h1, hb.le, hb.max, hb.lt, hb.len, fun j u hu => by rw [Nat.zero_add]; exact hb.holds j u hu, fun j hj => by rw [Nat.zero_add]; exact hb.there j hj⟩
theorem QueAt.keep {w w' : World} {g off cap : Nat} {cs : List Value} {n : Nat} (h : QueAt w g off cap cs n) (hb : w'.heap[g]? = w.heap[g]?) : QueAt w' g off cap cs n := by
  have hlt : g < w'.heap.size := by
    rcases Nat.lt_or_ge g w'.heap.size with h' | h'
    · exact h'
    · rw [Array.getElem?_eq_none h'] at hb
      have := Array.getElem?_eq_getElem h.lt
      rw [this] at hb; cases hb
  refine ⟨h.le, h.max, hlt, h.len, fun j u hu => ?_, fun j hj => ?_⟩
  · exact (World.cell?_of_block (a := ⟨g, off + j, none⟩) hb).trans (h.holds j u hu)
  · rw [World.cell?_of_block (a := ⟨g, off + j, none⟩) hb, World.frozen?_of_block (a := ⟨g, off + j, none⟩) hb]; exact h.there j hj
theorem Que.apart {w w' : World} {v : Value} {pe : Int} {out : List UInt8} {ats : List Int} {S : List Nat} (h : Que w v pe out ats) (ho : Only S w w') (ha : Apart v S) : Que w' v pe out ats := by
  rcases h with h | ⟨g, off, cap, rfl, hb⟩
  · exact .inl h
  · exact .inr ⟨g, off, cap, rfl, hb.keep (ho.block g hb.lt (ha _ _ _ rfl))⟩
theorem Que.below {w w' : World} {v : Value} {pe : Int} {out : List UInt8} {ats : List Int} (h : Que w v pe out ats) (hb : Below w.heap.size w w') : Que w' v pe out ats := by
  rcases h with h | ⟨g, off, cap, rfl, hq⟩
  · exact .inl h
  · exact .inr ⟨g, off, cap, rfl, hq.keep (hb.block g hq.lt)⟩
/-- a tail of the queue -/
theorem QueAt.tail {w : World} {g off cap : Nat} {pe : Int} {out : List UInt8} {x : Int} {ats : List Int} (ho : out.length = 32) (h : QueAt w g off cap (asksCells pe out (x :: ats)) (x :: ats).length) : QueAt w g (off + 238) (cap - 1) (asksCells pe out ats) ats.length := by
  have hl := sent_len pe (askFr_fit out x ho)
  have e : asksCells pe out (x :: ats) = sentCells pe (askFr out x) ++ asksCells pe out ats := rfl
  have hle := h.le
  simp only [List.length_cons] at hle
  refine ⟨by omega, by have := h.max; omega, h.lt, ?_, fun j u hu => ?_, fun j hj => ?_⟩
  · have := h.len
    rw [e, List.length_append, hl, List.length_cons, Nat.add_mul] at this
    omega
  · have := h.holds (238 + j) u (by rw [e, List.getElem?_append_right (by omega), hl, Nat.add_sub_cancel_left]; exact hu)
    rw [Nat.add_assoc]; exact this
  · have hj2 : 238 + j < cap * 238 := by
      have : (cap - 1) * 238 = cap * 238 - 238 := by rw [Nat.sub_mul]
      omega
    have := h.there (238 + j) hj2
    rw [Nat.add_assoc]; exact this
set_option maxRecDepth 100000 in
theorem run_append_queAt {ty : TypeId} {w : World} {g off cap m : Nat} {cs : List Value} (h : QueAt w g off cap cs m) (x : Value) (n : Nat) (news : List Value) (hs : Src Tryd.prog 238 31 x n news w) (h63 : m + n ≤ 1000) :
    ∃ g' off' cap' w', (Builtin.append_ #[31, 31] ty #[.slice (some ⟨g, off, none⟩) m cap, x]).run Tryd.prog w = .ok (.slice (some ⟨g', off', none⟩) (m + n) cap') w' ∧ QueAt w' g' off' cap' (cs ++ news) (m + n) ∧ Only [g] w w' ∧ (g' = g ∨ w.heap.size ≤ g') := by
  obtain ⟨i, hi, hz, hsize, hby⟩ := sent_parts
  have hzs : (Value.agg (sentRow 0 zeroFr)).cells.size = 238 := sentRow_size 0 zeroFr_fit
  have hnl := hs.newsLen
  have hol := h.len
  rw [← hsize] at hs
  by_cases hfit : m + n ≤ cap
  · have hrc : (m + n) * 238 ≤ cap * 238 := Nat.mul_le_mul_right _ hfit
    rw [Nat.add_mul] at hrc
    have hsome : ∀ j, j < news.length → (w.cell? ⟨g, off + m * i.size + j, none⟩).isSome = true := fun j hj => by rw [hsize, Nat.add_assoc]; exact (h.there _ (by omega)).1
    have hrun := run_append_room_src (P := Tryd.prog) w 31 31 ty 50 i Tryd.underlying31 hi g off m cap x n news hs hfit hsome (fun j hj => by rw [hsize, Nat.add_assoc]; exact (h.there _ (by omega)).2)
    have ho : Only [g] w (w.setCells g (off + m * i.size) news) := (Only.refl [g] w).setCells (by simp) _ _
    refine ⟨g, off, cap, _, hrun, ⟨hfit, h.max, Nat.lt_of_lt_of_le h.lt ho.size, by rw [List.length_append, hol, hnl, Nat.add_mul], fun j u hu => ?_, fun j hj => ⟨?_, ?_⟩⟩, ho, .inl rfl⟩
    · by_cases hj : j < cs.length
      · rw [List.getElem?_append_left hj] at hu
        rw [World.cell?_setCells_out g _ _ _ _ (fun _ _ => Or.inl (by show off + j < off + m * i.size; rw [hsize]; omega))]
        exact h.holds j u hu
      · rw [List.getElem?_append_right (by omega)] at hu
        have hlt := (List.getElem?_eq_some_iff.1 hu).1
        have := World.cell?_setCells_in g news (off + m * i.size) w hsome (j - cs.length) hlt
        rw [show off + m * i.size + (j - cs.length) = off + j by rw [hsize]; omega] at this
        rw [this, ← (List.getElem?_eq_some_iff.1 hu).2]
    · by_cases hin : m * 238 ≤ j ∧ j < m * 238 + news.length
      · have := World.cell?_setCells_in g news (off + m * i.size) w hsome (j - m * 238) (by omega)
        rw [show off + m * i.size + (j - m * 238) = off + j by rw [hsize]; omega] at this
        rw [this]; rfl
      · rw [World.cell?_setCells_out g _ _ _ _ (fun _ _ => by show off + j < off + m * i.size ∨ off + m * i.size + news.length ≤ off + j; rw [hsize]; omega)]
        exact (h.there j hj).1
    · exact (World.frozen?_setCells g _ _ _ _).trans (h.there j hj).2
  · have hol' : cs.length = m * i.size := by rw [hsize]; exact hol
    have hold := run_firstCells_some (P := Tryd.prog) w.drew i.size m ⟨g, off, none⟩ m cap cs hol' (fun j u hu => by rw [Addr.add_lit]; exact h.holds j u hu)
    have hrun := run_append_grow_src (P := Tryd.prog) w 31 31 ty 50 i _ Tryd.underlying31 hi hz (some ⟨g, off, none⟩) m cap cs (by exact hold) x n news hs (by omega) (by omega) (growslice_fits (by omega) (by rw [hby]; omega))
    have hge := grownCap_ge w (m + n) cap 50
    have hcm := grownCap_le_maxLen w (m + n) cap 50 (by unfold maxLen; omega)
    have hL : (cs ++ news).length = (m + n) * 238 := by rw [List.length_append, hol, hnl, Nat.add_mul]
    have hsz : ((cs ++ news).toArray ++ Builtin.zeroCells (Value.agg (sentRow 0 zeroFr)).cells (grownCap w (m + n) cap 50 - (m + n))).size = grownCap w (m + n) cap 50 * 238 := by
      rw [Array.size_append, List.size_toArray, hL, size_zeroCells, hzs, ← Nat.add_mul]
      congr 1
      omega
    refine ⟨w.heap.size, 0, _, _, hrun, ⟨hge, hcm, by simp, hL, fun j u hu => ?_, fun j hj => ⟨?_, ?_⟩⟩, ((Only.refl [g] w).drew).alloc _, .inr (Nat.le_refl _)⟩
    · rw [Nat.zero_add]
      have e1 : (w.drew.alloc (.cells ((cs ++ news).toArray ++ Builtin.zeroCells (Value.agg (sentRow 0 zeroFr)).cells (grownCap w (m + n) cap 50 - (m + n))) 50)).cell? ⟨w.heap.size, j, none⟩ = _ := World.cell?_alloc_new w.drew _ _ j
      rw [e1, Array.getElem?_append_left (by simp only [List.size_toArray]; exact (List.getElem?_eq_some_iff.1 hu).1), List.getElem?_toArray, hu]
    · rw [Nat.zero_add]
      have e1 : (w.drew.alloc (.cells ((cs ++ news).toArray ++ Builtin.zeroCells (Value.agg (sentRow 0 zeroFr)).cells (grownCap w (m + n) cap 50 - (m + n))) 50)).cell? ⟨w.heap.size, j, none⟩ = _ := World.cell?_alloc_new w.drew _ _ j
      rw [e1, Array.getElem?_eq_getElem (by rw [hsz]; exact hj)]
      rfl
    · rw [Nat.zero_add]; exact World.frozen?_alloc_new w.drew _ _ j
/-- what an append onto a queue leaves: the blocks that may have turned are the queue's own -/
def blkV (v : Value) : List Nat := match v with | .slice (some a) _ _ => [a.block] | _ => []
theorem run_append_que {ty : TypeId} {w : World} {v x : Value} {pe : Int} {out : List UInt8} {ats bts : List Int} (ho : out.length = 32) (h : Que w v pe out ats) {B : Nat} (hx : Asks w B x pe out bts) (h63 : ats.length + bts.length ≤ 1000) :
    ∃ v' w', (Builtin.append_ #[31, 31] ty #[v, x]).run Tryd.prog w = .ok v' w' ∧ Que w' v' pe out (ats ++ bts) ∧ Only (blkV v) w w' ∧ (∀ k ∈ blkV v', k ∈ blkV v ∨ w.heap.size ≤ k) := by
  have hs := hx.src ho
  rcases h with ⟨rfl, rfl⟩ | ⟨g, off, cap, rfl, hq⟩
  · obtain ⟨i, hi, hz, hsize, hby⟩ := sent_parts
    obtain ⟨v', w', hr, hb, hB⟩ := run_append_bagN (P := Tryd.prog) 31 31 ty 50 i _ 408 Tryd.underlying31 hi hz hsize hby (sentRow_size 0 zeroFr_fit) (Nat.le_refl w.heap.size) (Bag0.nil w w.heap.size 238) x _ _ hs (by unfold maxLen; simp only [List.length_nil] at h63; omega) (by simp only [List.length_nil] at h63; omega)
    rw [Nat.zero_add, List.nil_append] at hb
    have hA : Asks w' w.heap.size v' pe out bts := hb
    refine ⟨v', w', hr, by simpa using Que.of_asks hA, Only.of_below hB, fun k hk => ?_⟩
    rcases hA with ⟨h1, -, -⟩ | ⟨g, cap, h1, hg, -⟩
    · rw [h1] at hk; simp [blkV] at hk
    · rw [h1] at hk; simp [blkV] at hk; subst hk; exact .inr hg
  · obtain ⟨g', off', cap', w', hr, hq', ho', hg⟩ := run_append_queAt (ty := ty) hq x _ _ hs h63
    refine ⟨_, w', hr, .inr ⟨g', off', cap', by rw [List.length_append], by rw [asks_append, List.length_append]; exact hq'⟩, ho', fun k hk => ?_⟩
    simp [blkV] at hk
    subst hk
    rcases hg with rfl | hg
    · exact .inl (by simp [blkV])
    · exact .inr hg
theorem wpList_append_que (w : World) {ops : Array Oper} {rest : List Oper} {o : Oper} {a : Act} {Q : Exit → Act → World → Prop} (hgd : o.guard = none) (s x : Operand)
    (ho : o.op = .call { callee := .builtin .append, args := #[s, x], argTypes := #[31, 31] })
    {v xv : Value} {pe : Int} {out : List UInt8} {ats bts : List Int} {B : Nat} (hou : out.length = 32) (hv : a.eval s = v) (h : Que w v pe out ats) (hx : a.eval x = xv) (hxa : Asks w B xv pe out bts) (h63 : ats.length + bts.length ≤ 1000)
    (hK : ∀ v' w', Que w' v' pe out (ats ++ bts) → Only (blkV v) w w' → (∀ k ∈ blkV v', k ∈ blkV v ∨ w.heap.size ≤ k) → wpList Tryd.prog ops Q rest (a.put o.dst v') w') : wpList Tryd.prog ops Q (o :: rest) a w := by
  refine wpList_plain hgd fun K hK' => ?_
  obtain ⟨v', w', hrun, h1, h2, h3⟩ := run_append_que (ty := o.type) hou h hxa h63
  unfold Oper.wp
  simp [execOp, ho, resolve, invoke, builtin, hv, hx, hrun, Result.andThen]
  exact hK' _ _ (hK v' w' h1 h2 h3)
end Go.Proofs.YtfbjbhddapoopaaDoor

set_option linter.unusedVariables false
set_option linter.unusedSimpArgs false
namespace Go.Proofs.YtfbjbhddapoopaaDoor
open Go.RowKit

namespace Hl
/-- the frames that are under way in one tick: each asks, and is answered, or is lost -/
def inner (n : Nat) (lost : Bool) : Nat → HlD → List Int → HlD
  | 0, a, _ => a
  | _ + 1, a, [] => a
  | k + 1, a, x :: q => if lost = true then inner n lost k a q else if x < 0 then inner n lost k (abMani n a).1 (q ++ (abMani n a).2) else inner n lost k (abPart x.toNat a).1 (q ++ (abPart x.toNat a).2)
def aAt (n : Nat) (one : Int) : Nat → HlD
  | 0 => new [] 3
  | i + 1 => inner n ((i : Int) == one) 60 (tick (aAt n one i)).1 (tick (aAt n one i)).2
def comesB (n : Nat) (one : Int) : Bool := (aAt n one 14).done && !(aAt n one 14).failed
set_option maxRecDepth 100000 in
theorem comes_all : ((List.range 9).all fun n => (List.range 15).all fun j => comesB n ((j : Int) - 1)) = true := by decide +kernel
theorem comes (n : Nat) (one : Int) (hn : n ≤ 8) (h1 : -1 ≤ one) (h2 : one ≤ 13) : (aAt n one 14).done = true ∧ (aAt n one 14).failed = false := by
  have h := comes_all
  rw [List.all_eq_true] at h
  have h3 := h n (List.mem_range.2 (by omega))
  rw [List.all_eq_true] at h3
  have h4 := h3 (one + 1).toNat (List.mem_range.2 (by omega))
  have e : (((one + 1).toNat : Nat) : Int) - 1 = one := by omega
  rw [e] at h4
  unfold comesB at h4
  simpa using h4
/-- a place that is asked for is one of a chunk, or the manifest's -/
theorem fillAt_in (t : Int) (cks : List Ck) (n : Nat) : ∀ j, ∀ x ∈ (fillAt t cks n j).2.2, 0 ≤ x ∧ x < cks.length
  | 0, x, h => by simp [fillAt] at h
  | j + 1, x, h => by
    have ih := fillAt_in t cks n j
    rw [fillAt] at h
    unfold fillStep at h
    split at h
    · rename_i c hc
      split at h
      · rcases List.mem_append.1 h with h | h
        · exact ih x h
        · simp only [List.mem_singleton] at h
          subst h
          have := (List.getElem?_eq_some_iff.1 hc).1
          rw [fillAt_len] at this
          omega
      · exact ih x h
    · exact ih x h
theorem againAt_in (t : Int) (cks : List Ck) : ∀ j, ∀ x ∈ (againAt t cks j).2, 0 ≤ x ∧ x < cks.length
  | 0, x, h => by simp [againAt] at h
  | j + 1, x, h => by
    have ih := againAt_in t cks j
    rw [againAt] at h
    unfold againStep at h
    split at h
    · rename_i c hc
      split at h
      · rcases List.mem_append.1 h with h | h
        · exact ih x h
        · simp only [List.mem_singleton] at h
          subst h
          have := (List.getElem?_eq_some_iff.1 hc).1
          rw [againAt_len] at this
          omega
      · exact ih x h
    · exact ih x h
theorem tick_in {d : HlD} {n : Nat} (h : d.cks.length ≤ n) : ∀ x ∈ (tick d).2, -1 ≤ x ∧ x < n := by
  intro x hx
  unfold tick at hx
  split at hx
  · simp at hx
  · split at hx
    · simp at hx
    · split at hx
      · rcases List.mem_append.1 hx with hx | hx
        · have := againAt_in _ _ _ x hx; omega
        · have := fillAt_in _ _ _ _ x hx
          have hl := again_len (d.ticks + 1) d.cks
          omega
      · split at hx
        · simp at hx; omega
        · simp at hx
theorem abSettle_in (a : HlD) (n : Nat) (h : a.cks.length ≤ n) : ∀ x ∈ (abSettle a).2, -1 ≤ x ∧ x < n := by
  intro x hx
  unfold abSettle at hx
  split at hx
  · simp at hx
  · have := fillAt_in _ _ _ _ x hx; omega
theorem abMani_in (a : HlD) (n : Nat) : ∀ x ∈ (abMani n a).2, -1 ≤ x ∧ x < n := by
  intro x hx
  unfold abMani at hx
  split at hx
  · simp at hx
  · split at hx
    · simp at hx
    · exact abSettle_in _ n (by simp) x hx
theorem abPart_in (i : Nat) (a : HlD) (n : Nat) (h : a.cks.length ≤ n) : ∀ x ∈ (abPart i a).2, -1 ≤ x ∧ x < n := by
  intro x hx
  unfold abPart at hx
  split at hx
  · simp at hx
  · split at hx
    · simp at hx
    · split at hx
      · split at hx
        · simp at hx
        · exact abSettle_in _ n (by simpa using h) x hx
      · simp at hx
/-- at most 8 chunks of an own blob -/
theorem Own.cks_le {K : List Int} {l : List UInt8} {d : HlD} (h : Own K l d) (ok : Ok d) : d.cks.length ≤ (chunks l).length := by
  cases hq : d.mani with
  | none => rw [ok.none hq]; exact Nat.zero_le _
  | some sp => exact Nat.le_of_eq (h.mani sp hq).2
theorem tick_two (d : HlD) (ok : Ok d) : (tick d).2.length ≤ 16 := by
  have h8 := ok.len
  unfold tick
  split
  · simp
  · split
    · simp
    · split
      · rw [List.length_append]
        have h1 := again_ats (d.ticks + 1) d.cks
        have h2 := fill_ats (d.ticks + 1) (again (d.ticks + 1) d.cks).1
        have h3 := again_len (d.ticks + 1) d.cks
        omega
      · split <;> simp
theorem inner_nil (n : Nat) (lost : Bool) (k : Nat) (a : HlD) : inner n lost k a [] = a := by cases k <;> rfl
theorem inner_cons (n : Nat) (lost : Bool) (k : Nat) (a : HlD) (x : Int) (q : List Int) : inner n lost (k + 1) a (x :: q) = if lost = true then inner n lost k a q else if x < 0 then inner n lost k (abMani n a).1 (q ++ (abMani n a).2) else inner n lost k (abPart x.toNat a).1 (q ++ (abPart x.toNat a).2) := rfl
theorem tick_peer (d : HlD) : (tick d).1.peer = d.peer := by
  unfold tick
  split
  · rfl
  · split
    · rfl
    · split
      · rfl
      · split <;> rfl
theorem hear_peer (K : List Int) (d : HlD) (f : FrD) : (hearOf K d f).1.peer = d.peer := by
  rcases hear_cases K d f with e | ⟨-, -, d', sp, e, -, -, -, -, -, e6⟩
  · rw [e]
  · rw [e, ← e6]
    unfold settle
    split <;> rfl
end Hl
end Go.Proofs.YtfbjbhddapoopaaDoor

set_option linter.unusedVariables false
set_option linter.unusedSimpArgs false
namespace Go.Proofs.YtfbjbhddapoopaaDoor
open Go.RowKit

namespace Hl
/-- the frames that are under way in one tick: the first b that ask are answered, the others are not -/
def innerB (n : Nat) : Nat → Nat → HlD → List Int → HlD
  | 0, _, a, _ => a
  | _ + 1, _, a, [] => a
  | k + 1, b, a, x :: q => if b = 0 then innerB n k b a q else if x < 0 then innerB n k (b - 1) (abMani n a).1 (q ++ (abMani n a).2) else innerB n k (b - 1) (abPart x.toNat a).1 (q ++ (abPart x.toNat a).2)
def bAt (n B : Nat) : Nat → HlD
  | 0 => new [] 5
  | i + 1 => innerB n 60 B (tick (bAt n B i)).1 (tick (bAt n B i)).2
set_option maxRecDepth 100000 in
theorem comesR_all : ((List.range 9).all fun n => (List.range 20).all fun j => (bAt n (j + 2) 14).done) = true := by decide +kernel
theorem comesR (n B : Nat) (hn : n ≤ 8) (h1 : 2 ≤ B) (h2 : B ≤ 21) : (bAt n B 14).done = true := by
  have h := comesR_all
  rw [List.all_eq_true] at h
  have h3 := h n (List.mem_range.2 (by omega))
  rw [List.all_eq_true] at h3
  have h4 := h3 (B - 2) (List.mem_range.2 (by omega))
  rwa [show B - 2 + 2 = B by omega] at h4
theorem innerB_nil (n : Nat) (k b : Nat) (a : HlD) : innerB n k b a [] = a := by cases k <;> rfl
theorem innerB_cons (n : Nat) (k b : Nat) (a : HlD) (x : Int) (q : List Int) : innerB n (k + 1) b a (x :: q) = if b = 0 then innerB n k b a q else if x < 0 then innerB n k (b - 1) (abMani n a).1 (q ++ (abMani n a).2) else innerB n k (b - 1) (abPart x.toNat a).1 (q ++ (abPart x.toNat a).2) := rfl
end Hl
end Go.Proofs.YtfbjbhddapoopaaDoor
