/-
  Layer 17, plain: a fetch that hears its own blob's frames goes as one that looks at no data.
-/
import Derived.Test.YtfbjbhddapoopaaDoorHaM
set_option linter.unusedVariables false
set_option linter.unusedSimpArgs false
namespace Go.Proofs.YtfbjbhddapoopaaDoor
open Go.RowKit

namespace Hl
def bare (c : Ck) : Ck := { c with data := [] }
def strip (d : HlD) : HlD := { d with blob := [], out := [], mani := d.mani.map (fun _ => (0, [])), cks := d.cks.map bare }
theorem askN_strip (cks : List Ck) : ∀ j, askN (cks.map bare) j = askN cks j
  | 0 => rfl
  | j + 1 => by
    rw [askN, askN, askN_strip cks j, List.getElem?_map]
    cases cks[j]? <;> rfl
theorem fillStep_strip (t : Int) (cks : List Ck) (m : Nat) (ats : List Int) (i : Nat) :
    fillStep t (cks.map bare, m, ats) i = ((fillStep t (cks, m, ats) i).1.map bare, (fillStep t (cks, m, ats) i).2.1, (fillStep t (cks, m, ats) i).2.2) := by
  unfold fillStep
  simp only [List.getElem?_map]
  cases cks[i]? with
  | none => rfl
  | some c =>
    show (if m < 2 ∧ c.come = false ∧ c.asked = false then _ else _) = _
    simp only
    split
    · simp [List.map_set, bare]
    · rfl
theorem fillAt_strip (t : Int) (cks : List Ck) (n : Nat) : ∀ j, fillAt t (cks.map bare) n j = ((fillAt t cks n j).1.map bare, (fillAt t cks n j).2.1, (fillAt t cks n j).2.2)
  | 0 => rfl
  | j + 1 => by rw [fillAt, fillAt_strip t cks n j, fillStep_strip]; rfl
theorem fill_strip (t : Int) (cks : List Ck) : fill t (cks.map bare) = ((fill t cks).1.map bare, (fill t cks).2) := by
  unfold fill
  rw [List.length_map, askN_strip, fillAt_strip]
theorem againStep_strip (t : Int) (cks : List Ck) (ats : List Int) (i : Nat) :
    againStep t (cks.map bare, ats) i = ((againStep t (cks, ats) i).1.map bare, (againStep t (cks, ats) i).2) := by
  unfold againStep
  simp only [List.getElem?_map]
  cases cks[i]? with
  | none => rfl
  | some c =>
    show (if c.asked = true ∧ 3 ≤ t - c.at_ then _ else _) = _
    simp only
    split
    · simp [List.map_set, bare]
    · rfl
theorem againAt_strip (t : Int) (cks : List Ck) : ∀ j, againAt t (cks.map bare) j = ((againAt t cks j).1.map bare, (againAt t cks j).2)
  | 0 => rfl
  | j + 1 => by rw [againAt, againAt_strip t cks j, againStep_strip]; rfl
theorem again_strip (t : Int) (cks : List Ck) : again t (cks.map bare) = ((again t cks).1.map bare, (again t cks).2) := by
  unfold again
  rw [List.length_map, againAt_strip]
theorem tick_strip (d : HlD) : tick (strip d) = (strip (tick d).1, (tick d).2) := by
  unfold tick
  show (if d.done = true ∨ d.failed = true then (strip d, []) else if 14 < d.ticks + 1 then _ else _) = _
  split
  · rfl
  · split
    · rfl
    · cases hq : d.mani with
      | none =>
        have : (strip d).mani = none := by show d.mani.map _ = none; rw [hq]; rfl
        rw [this]
        show (if (d.ticks + 1) % 3 = 1 then _ else _) = _
        simp only
        split <;> rfl
      | some sp =>
        have e0 : (strip d).mani = some (0, []) := by show d.mani.map _ = _; rw [hq]; rfl
        have e1 : again ((strip d).ticks + 1) (strip d).cks = ((again (d.ticks + 1) d.cks).1.map bare, (again (d.ticks + 1) d.cks).2) := again_strip (d.ticks + 1) d.cks
        have e2 : fill ((strip d).ticks + 1) ((again (d.ticks + 1) d.cks).1.map bare) = ((fill (d.ticks + 1) (again (d.ticks + 1) d.cks).1).1.map bare, (fill (d.ticks + 1) (again (d.ticks + 1) d.cks).1).2) := fill_strip (d.ticks + 1) _
        rw [e0]
        simp only [e1, e2]
        simp [strip, hq]

def abSettle (a : HlD) : HlD × List Int :=
  if allCome a.cks = true then ({ a with done := true }, []) else ({ a with cks := (fill a.ticks a.cks).1 }, (fill a.ticks a.cks).2)
/-- the own manifest, of n chunks, comes -/
def abMani (n : Nat) (a : HlD) : HlD × List Int :=
  if a.done = true ∨ a.failed = true then (a, []) else
  match a.mani with
  | some _ => (a, [])
  | none => abSettle { a with mani := some (0, []), cks := List.replicate n ⟨[], false, false, 0⟩ }
/-- the own part i comes -/
def abPart (i : Nat) (a : HlD) : HlD × List Int :=
  if a.done = true ∨ a.failed = true then (a, []) else
  match a.mani with
  | none => (a, [])
  | some _ => match a.cks[i]? with
    | some c => if c.come = true then (a, []) else abSettle { a with cks := a.cks.set i ⟨[], true, false, 0⟩ }
    | none => (a, [])

structure Own (K : List Int) (l : List UInt8) (d : HlD) : Prop where
  out : d.out = hashB K l
  mani : ∀ sp, d.mani = some sp → sp = ((l.length : Int), (chunks l).map (hashB K)) ∧ d.cks.length = (chunks l).length
  data : ∀ (i : Nat) (c : Ck), d.cks[i]? = some c → c.come = true → c.data = chunk l i
  blob : d.done = true → d.blob = l

theorem fillAt_come (t : Int) (cks : List Ck) (n : Nat) : ∀ j (i : Nat) (c : Ck), (fillAt t cks n j).1[i]? = some c → ∃ c0, cks[i]? = some c0 ∧ c.come = c0.come ∧ c.data = c0.data
  | 0, i, c, h => ⟨c, h, rfl, rfl⟩
  | j + 1, i, c, h => by
    have ih := fillAt_come t cks n j
    rw [fillAt] at h
    unfold fillStep at h
    split at h
    · rename_i x hx
      split at h
      · rcases Nat.lt_trichotomy i j with hij | hij | hij
        · rw [List.getElem?_set_ne (by omega)] at h; exact ih i c h
        · subst hij
          rw [List.getElem?_set_self (List.getElem?_eq_some_iff.1 hx).1] at h
          obtain ⟨c0, h0, e1, e2⟩ := ih i x hx
          obtain rfl := Option.some.inj h
          exact ⟨c0, h0, e1, e2⟩
        · rw [List.getElem?_set_ne (by omega)] at h; exact ih i c h
      · exact ih i c h
    · exact ih i c h
theorem againAt_come (t : Int) (cks : List Ck) : ∀ j (i : Nat) (c : Ck), (againAt t cks j).1[i]? = some c → ∃ c0, cks[i]? = some c0 ∧ c.come = c0.come ∧ c.data = c0.data
  | 0, i, c, h => ⟨c, h, rfl, rfl⟩
  | j + 1, i, c, h => by
    have ih := againAt_come t cks j
    rw [againAt] at h
    unfold againStep at h
    split at h
    · rename_i x hx
      split at h
      · rcases Nat.lt_trichotomy i j with hij | hij | hij
        · rw [List.getElem?_set_ne (by omega)] at h; exact ih i c h
        · subst hij
          rw [List.getElem?_set_self (List.getElem?_eq_some_iff.1 hx).1] at h
          obtain ⟨c0, h0, e1, e2⟩ := ih i x hx
          obtain rfl := Option.some.inj h
          exact ⟨c0, h0, e1, e2⟩
        · rw [List.getElem?_set_ne (by omega)] at h; exact ih i c h
      · exact ih i c h
    · exact ih i c h
theorem Own.cks {K : List Int} {l : List UInt8} {d : HlD} (h : Own K l d) {cs : List Ck} (hl : cs.length = d.cks.length) (hc : ∀ (i : Nat) (c : Ck), cs[i]? = some c → ∃ c0, d.cks[i]? = some c0 ∧ c.come = c0.come ∧ c.data = c0.data) : Own K l { d with cks := cs } :=
  ⟨h.out, fun sp e => ⟨(h.mani sp e).1, by show cs.length = _; rw [hl]; exact (h.mani sp e).2⟩, fun i c hi hcm => by
    obtain ⟨c0, h0, e1, e2⟩ := hc i c hi
    rw [e2]; exact h.data i c0 h0 (by rw [← e1]; exact hcm), h.blob⟩
theorem Own.fill {K : List Int} {l : List UInt8} {d : HlD} (h : Own K l d) (t : Int) : Own K l { d with cks := (fill t d.cks).1 } := h.cks (fill_len _ _) (fun i c hi => fillAt_come _ _ _ _ i c hi)
theorem Own.again {K : List Int} {l : List UInt8} {d : HlD} (h : Own K l d) (t : Int) : Own K l { d with cks := (again t d.cks).1 } := h.cks (again_len _ _) (fun i c hi => againAt_come _ _ _ i c hi)
theorem own_new (K : List Int) (l : List UInt8) (peer : Int) : Own K l (new (hashB K l) peer) := ⟨rfl, (fun _ e => by cases e), (fun i c hi => by simp [new] at hi), (fun e => by cases e)⟩
theorem own_tick {K : List Int} {l : List UInt8} {d : HlD} (h : Own K l d) : Own K l (tick d).1 := by
  unfold tick
  split
  · exact h
  · split
    · exact ⟨h.out, h.mani, h.data, h.blob⟩
    · split
      · exact ((Own.again (d := { d with ticks := d.ticks + 1 }) ⟨h.out, h.mani, h.data, h.blob⟩ (d.ticks + 1)).fill (d.ticks + 1))
      · split <;> exact ⟨h.out, h.mani, h.data, h.blob⟩
theorem allCome_strip (cks : List Ck) : allCome (cks.map bare) = allCome cks := by
  unfold allCome
  rw [List.all_map]
  rfl
theorem own_settle {K : List Int} {l : List UInt8} {d : HlD} (hl : l.length ≤ 512) (h : Own K l d) (sp : Int × List (List UInt8)) (hsp : d.mani = some sp) (hdn : d.done = false) (hfl : d.failed = false) :
    Own K l (settle K d sp).1 ∧ strip (settle K d sp).1 = (abSettle (strip d)).1 ∧ (settle K d sp).2 = (abSettle (strip d)).2 := by
  obtain ⟨rfl, hlen⟩ := h.mani sp hsp
  have hm : OwnM K (mk d.out ((l.length : Int), (chunks l).map (hashB K))) l := ⟨h.out, rfl, rfl⟩
  unfold settle abSettle
  have e1 : allCome (strip d).cks = allCome d.cks := allCome_strip d.cks
  rw [e1]
  by_cases hc : allCome d.cks = true
  · have hd : d.cks.map (·.data) = chunks l := by
      apply List.ext_getElem?
      intro i
      rw [List.getElem?_map]
      rcases Nat.lt_or_ge i d.cks.length with hi | hi
      · rw [List.getElem?_eq_getElem hi, List.getElem?_eq_getElem (by omega), chunks_get]
        have hx : d.cks[i]? = some d.cks[i] := List.getElem?_eq_getElem hi
        have hcm : (d.cks[i]).come = true := by
          unfold allCome at hc
          rw [List.all_eq_true] at hc
          exact hc _ (List.getElem_mem hi)
        show some (d.cks[i]).data = _
        rw [h.data i _ hx hcm]
      · rw [List.getElem?_eq_none hi, List.getElem?_eq_none (by omega)]; rfl
    rw [if_pos hc, if_pos hc, hd, hm.join hl]
    refine ⟨⟨h.out, h.mani, h.data, fun _ => rfl⟩, ?_, rfl⟩
    simp [strip, hfl]
  · rw [if_neg hc, if_neg hc]
    have e2 : fill (strip d).ticks (strip d).cks = _ := fill_strip d.ticks d.cks
    rw [e2]
    exact ⟨h.fill _, rfl, rfl⟩
theorem hear_shut {K : List Int} {d : HlD} {f : FrD} (h : d.done = true ∨ d.failed = true) : hearOf K d f = (d, []) := by
  unfold hearOf hear
  rw [if_pos (by rcases h with h | h; exact .inl h; exact .inr (.inl h))]
theorem hear_had7 {K : List Int} {d : HlD} {f : FrD} (hdn : d.done = false) (hfl : d.failed = false) (hp : f.from_ = d.peer) (h7 : f.kind = 7) {sp : Int × List (List UInt8)} (hmn : d.mani = some sp) : hearOf K d f = (d, []) := by
  unfold hearOf hear
  rw [if_neg (by simp [hdn, hfl, hp]), if_pos h7, hmn]
theorem hear_open7 {K : List Int} {d : HlD} {f : FrD} (hdn : d.done = false) (hfl : d.failed = false) (hp : f.from_ = d.peer) (h7 : f.kind = 7) (hmn : d.mani = none) (hg : goodS f.mani.size f.mani.parts.length = true) (hw : f.mani.whole = d.out) :
    hearOf K d f = settle K (withMani d f) (f.mani.size, f.mani.parts) := by
  unfold hearOf hear
  rw [if_neg (by simp [hdn, hfl, hp]), if_pos h7, hmn]
  simp only
  rw [if_pos ⟨hg, hw⟩]
  rfl
theorem hear_none8 {K : List Int} {d : HlD} {f : FrD} (hdn : d.done = false) (hfl : d.failed = false) (hp : f.from_ = d.peer) (h8 : f.kind = 8) (hmn : d.mani = none) : hearOf K d f = (d, []) := by
  unfold hearOf hear
  rw [if_neg (by simp [hdn, hfl, hp]), if_neg (by rw [h8]; decide), if_pos h8, hmn]
theorem hear_open8 {K : List Int} {d : HlD} {f : FrD} (hdn : d.done = false) (hfl : d.failed = false) (hp : f.from_ = d.peer) (h8 : f.kind = 8) {sp : Int × List (List UInt8)} (hmn : d.mani = some sp) :
    hearOf K d f = if takes K d sp f.out f.at_ f.data = true then settle K { d with cks := d.cks.set f.at_.toNat ⟨f.data, true, false, 0⟩ } sp else (d, []) := by
  unfold hearOf hear
  rw [if_neg (by simp [hdn, hfl, hp]), if_neg (by rw [h8]; decide), if_pos h8, hmn]
theorem strip_mani {d : HlD} {sp : Int × List (List UInt8)} (h : d.mani = some sp) : (strip d).mani = some (0, []) := by show d.mani.map _ = _; rw [h]; rfl
theorem strip_none {d : HlD} (h : d.mani = none) : (strip d).mani = none := by show d.mani.map _ = _; rw [h]; rfl
/-- what a frame makes of a fetch of an own blob, and what the like makes of one that looks at no data -/
structure Goes (K : List Int) (l : List UInt8) (r a : HlD × List Int) : Prop where
  own : Own K l r.1
  same : strip r.1 = a.1
  ats : r.2 = a.2
theorem own_mani {K : List Int} {l : List UInt8} {d : HlD} {m : ManiD} (hl : l.length ≤ 512) (hm : OwnM K m l) (h : Own K l d) : Goes K l (hearOf K d (maniFr d.peer m)) (abMani (chunks l).length (strip d)) := by
  by_cases hc : d.done = true ∨ d.failed = true
  · rw [hear_shut hc]
    unfold abMani
    rw [if_pos (show (strip d).done = true ∨ (strip d).failed = true from hc)]
    exact ⟨h, rfl, rfl⟩
  · have hdn : d.done = false := by cases hq : d.done <;> simp_all
    have hfl : d.failed = false := by cases hq : d.failed <;> simp_all
    unfold abMani
    rw [if_neg (show ¬ ((strip d).done = true ∨ (strip d).failed = true) from hc)]
    cases hq : d.mani with
    | some sp =>
      rw [hear_had7 (f := maniFr d.peer m) hdn hfl rfl rfl hq, strip_mani hq]
      exact ⟨h, rfl, rfl⟩
    | none =>
      rw [hear_open7 (f := maniFr d.peer m) hdn hfl rfl rfl hq (hm.good hl) (hm.whole.trans h.out.symm), strip_none hq]
      have hn : m.parts.length = (chunks l).length := by rw [hm.parts, List.length_map]
      have hown : Own K l (withMani d (maniFr d.peer m)) :=
        ⟨h.out, fun sp e => by obtain rfl := Option.some.inj e; exact ⟨by show (m.size, m.parts) = _; rw [hm.size, hm.parts], by show (List.replicate m.parts.length _).length = _; simp [hn]⟩, (fun i c hi hcm => by
          have := List.mem_of_getElem? hi
          obtain rfl := (List.mem_replicate.1 this).2
          cases hcm), (fun e => by rw [show (withMani d (maniFr d.peer m)).done = d.done from rfl, hdn] at e; cases e)⟩
      obtain ⟨a1, a2, a3⟩ := own_settle hl hown (m.size, m.parts) rfl hdn hfl
      have es : strip (withMani d (maniFr d.peer m)) = { strip d with mani := some (0, []), cks := List.replicate (chunks l).length ⟨[], false, false, 0⟩ } := by
        have e1 : (maniFr d.peer m).mani.parts.length = (chunks l).length := hn
        simp [strip, withMani, e1, bare]
      rw [es] at a2 a3
      exact ⟨a1, a2, a3⟩
theorem own_part {K : List Int} {l : List UInt8} {d : HlD} (hl : l.length ≤ 512) (i : Nat) (hi : i < (chunks l).length) (h : Own K l d) : Goes K l (hearOf K d (partFr d.peer (hashB K l) (i : Int) (chunk l i))) (abPart i (strip d)) := by
  by_cases hc : d.done = true ∨ d.failed = true
  · rw [hear_shut hc]
    unfold abPart
    rw [if_pos (show (strip d).done = true ∨ (strip d).failed = true from hc)]
    exact ⟨h, rfl, rfl⟩
  · have hdn : d.done = false := by cases hq : d.done <;> simp_all
    have hfl : d.failed = false := by cases hq : d.failed <;> simp_all
    unfold abPart
    rw [if_neg (show ¬ ((strip d).done = true ∨ (strip d).failed = true) from hc)]
    cases hq : d.mani with
    | none =>
      rw [hear_none8 (f := partFr d.peer (hashB K l) (i : Int) (chunk l i)) hdn hfl rfl rfl hq, strip_none hq]
      exact ⟨h, rfl, rfl⟩
    | some sp =>
      rw [hear_open8 (f := partFr d.peer (hashB K l) (i : Int) (chunk l i)) hdn hfl rfl rfl hq, strip_mani hq]
      obtain ⟨rfl, hlen⟩ := h.mani sp hq
      have hm : OwnM K (mk d.out ((l.length : Int), (chunks l).map (hashB K))) l := ⟨h.out, rfl, rfl⟩
      have hx : d.cks[i]? = some (d.cks[i]'(by omega)) := List.getElem?_eq_getElem (by omega)
      obtain ⟨x, hxx⟩ : ∃ x, x = d.cks[i]'(by omega) := ⟨_, rfl⟩
      rw [← hxx] at hx
      have ht : takes K d ((l.length : Int), (chunks l).map (hashB K)) (partFr d.peer (hashB K l) (i : Int) (chunk l i)).out (partFr d.peer (hashB K l) (i : Int) (chunk l i)).at_ (partFr d.peer (hashB K l) (i : Int) (chunk l i)).data = !x.come := by
        unfold takes
        have e1 : ((partFr d.peer (hashB K l) (i : Int) (chunk l i)).out == d.out) = true := by rw [h.out]; simp [partFr]
        have e2 : fitsS K (mk d.out ((l.length : Int), (chunks l).map (hashB K))) (partFr d.peer (hashB K l) (i : Int) (chunk l i)).at_ (partFr d.peer (hashB K l) (i : Int) (chunk l i)).data = true := hm.fits_own hl i hi
        have e3 : d.cks[(partFr d.peer (hashB K l) (i : Int) (chunk l i)).at_.toNat]? = some x := hx
        rw [e1, e2, e3]
        simp
      have es : (strip d).cks[i]? = some (bare x) := by show (d.cks.map bare)[i]? = _; rw [List.getElem?_map, hx]; rfl
      rw [ht]
      simp only [es]
      rw [show (bare x).come = x.come from rfl]
      cases hcm : x.come with
      | true =>
        rw [if_neg (by simp), if_pos rfl]
        exact ⟨h, rfl, rfl⟩
      | false =>
        rw [if_pos (by simp), if_neg (by simp)]
        have hown : Own K l { d with cks := d.cks.set i ⟨chunk l i, true, false, 0⟩ } :=
          ⟨h.out, fun sp e => ⟨(h.mani sp e).1, by simp [hlen]⟩, fun j c hj hcj => by
            by_cases hji : j = i
            · subst hji
              have hj' : (d.cks.set j ⟨chunk l j, true, false, 0⟩)[j]? = some c := hj
              rw [List.getElem?_set_self (by omega)] at hj'
              obtain rfl := Option.some.inj hj'
              rfl
            · have hj' : (d.cks.set i ⟨chunk l i, true, false, 0⟩)[j]? = some c := hj
              rw [List.getElem?_set_ne (by omega)] at hj'
              exact h.data j c hj' hcj, h.blob⟩
        obtain ⟨a1, a2, a3⟩ := own_settle hl hown ((l.length : Int), (chunks l).map (hashB K)) hq hdn hfl
        have es2 : strip { d with cks := d.cks.set i ⟨chunk l i, true, false, 0⟩ } = { strip d with mani := some (0, []), cks := (strip d).cks.set i ⟨[], true, false, 0⟩ } := by
          simp [strip, List.map_set, bare, hq]
        rw [es2] at a2 a3
        exact ⟨a1, a2, a3⟩
theorem own_none {K : List Int} {l : List UInt8} {d : HlD} (f : FrD) (h : hearOf K d f = (d, [])) (ho : Own K l d) : Own K l (hearOf K d f).1 := by rw [h]; exact ho
end Hl
end Go.Proofs.YtfbjbhddapoopaaDoor
