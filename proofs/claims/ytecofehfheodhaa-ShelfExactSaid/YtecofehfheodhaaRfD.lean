/-
  The document's shelf: On.
-/
import Derived.Test.YtecofehfheodhaaRfC
import Derived.Deep.CutBlock
set_option linter.unusedVariables false
set_option linter.unusedSimpArgs false
namespace Go.Proofs.Ytecofehfheodhaa
open Go.RowKit Sh
attribute [local go_sem] Lb.ba_get Lb.ba_cut Lb.ba_add Lb.ba_size Lb.take_rest

/-- what the document's On has made of the first k slots -/
def rfl_ (ss : List Slot) (fs : List Int) : Nat → List Slot
  | 0 => ss
  | k + 1 => match ss[k]? with
    | some x => if x.opn then (rfl_ ss fs k).set k (sure1 { x with now := left x (fs.getD (opens ss k % fs.length) 0) }) else rfl_ ss fs k
    | none => rfl_ ss fs k
theorem rfl_succ (ss : List Slot) (fs : List Int) (k : Nat) {x : Slot} (h : ss[k]? = some x) : rfl_ ss fs (k + 1) = if x.opn then (rfl_ ss fs k).set k (sure1 { x with now := left x (fs.getD (opens ss k % fs.length) 0) }) else rfl_ ss fs k := by
  conv => lhs; unfold rfl_
  rw [h]
theorem rfl_length (ss : List Slot) (fs : List Int) : ∀ k, (rfl_ ss fs k).length = ss.length
  | 0 => rfl
  | k + 1 => by
    unfold rfl_; split
    · split
      · rw [List.length_set]; exact rfl_length ss fs k
      · exact rfl_length ss fs k
    · exact rfl_length ss fs k
theorem rfl_at (ss : List Slot) (fs : List Int) (ht : ∀ x ∈ ss, x.opn = false → x.sure = x.now) : ∀ k, k ≤ ss.length → ∀ j, (j < k → (rfl_ ss fs k)[j]? = ((onl ss fs k)[j]?).map sure1) ∧ (k ≤ j → (rfl_ ss fs k)[j]? = ss[j]?)
  | 0, _, j => ⟨fun h => by omega, fun _ => rfl⟩
  | k + 1, hk, j => by
    obtain ⟨ih1, ih2⟩ := rfl_at ss fs ht k (by omega) j
    obtain ⟨x, hx⟩ : ∃ x, ss[k]? = some x := ⟨_, List.getElem?_eq_getElem (by omega)⟩
    have hxe : ss[k]'(by omega) = x := (List.getElem?_eq_some_iff.1 hx).2
    rw [rfl_succ ss fs k hx, onl_succ ss fs k (by omega), hxe]
    cases ho : x.opn with
    | true =>
      simp only [if_true]
      refine ⟨fun h => ?_, fun h => ?_⟩
      · by_cases hj : k = j
        · subst hj
          rw [List.getElem?_set_self (by rw [rfl_length]; omega), List.getElem?_set_self (by rw [onl_length]; omega)]
          rfl
        · rw [List.getElem?_set_ne hj, List.getElem?_set_ne hj]
          exact ih1 (by omega)
      · rw [List.getElem?_set_ne (by omega)]
        exact ih2 (by omega)
    | false =>
      simp only [Bool.false_eq_true, if_false]
      refine ⟨fun h => ?_, fun h => ih2 (by omega)⟩
      by_cases hj : k = j
      · subst hj
        rw [ih2 (Nat.le_refl _), onl_get ss fs k k (Nat.le_refl _), hx]
        have := ht x (List.mem_of_getElem? hx) ho
        obtain ⟨nw, su, op⟩ := x
        simp only at ho this
        subst ho this
        rfl
      · exact ih1 (by omega)
theorem rfl_all (ss : List Slot) (fs : List Int) (ht : ∀ x ∈ ss, x.opn = false → x.sure = x.now) : rfl_ ss fs ss.length = (onl ss fs ss.length).map sure1 := by
  refine (List.ext_getElem? fun j => ?_)
  obtain ⟨h1, h2⟩ := rfl_at ss fs ht ss.length (Nat.le_refl _) j
  by_cases hj : j < ss.length
  · rw [h1 hj, List.getElem?_map]
  · rw [h2 (by omega), List.getElem?_eq_none (by omega), List.getElem?_eq_none (by rw [List.length_map, onl_length]; omega)]

theorem List.set_getElem_self' {α : Type} {l : List α} {k : Nat} {x : α} (h : l[k]? = some x) : l.set k x = l := by
  obtain ⟨hl, rfl⟩ := List.getElem?_eq_some_iff.1 h
  exact List.set_getElem_self hl
theorem openCells_still (ss : List Slot) (k : Nat) {x y : Slot} (hk : ss[k]? = some x) (h : y.opn = x.opn) : openCells (ss.set k y) = openCells ss := by
  unfold openCells
  congr 1
  rw [List.map_set]
  refine (List.ext_getElem? fun i => ?_)
  by_cases hi : i = k
  · subst hi
    have hl := (List.getElem?_eq_some_iff.1 hk).1
    rw [List.getElem?_set_self (by simpa using hl)]
    simp [hk, h]
  · rw [List.getElem?_set_ne (by omega)]
theorem sureCells_still (ss : List Slot) (k : Nat) {x y : Slot} (hk : ss[k]? = some x) (h : y.sure = x.sure) : sureCells (ss.set k y) = sureCells ss := by
  unfold sureCells
  congr 1
  rw [List.map_set]
  refine (List.ext_getElem? fun i => ?_)
  by_cases hi : i = k
  · subst hi
    have hl := (List.getElem?_eq_some_iff.1 hk).1
    rw [List.getElem?_set_self (by simpa using hl)]
    simp [hk, h]
  · rw [List.getElem?_set_ne (by omega)]

/-- behind a store of a slot's text -/
theorem RefAt.setNow {w : World} {b g1 g2 g3 : Nat} {p : Pw} {ss : List Slot} {x : Slot} (h : RefAt w b g1 g2 g3 ⟨p, ss⟩) (k : Nat) (hk : ss[k]? = some x) (t : List UInt8) :
    RefAt (w.setCell ⟨g1, k, none⟩ (.string ⟨t.toArray⟩)) b g1 g2 g3 ⟨p, ss.set k { x with now := t }⟩ := by
  have o1 : Only [g1] w (w.setCell ⟨g1, k, none⟩ (.string ⟨t.toArray⟩)) := (Only.refl _ _).setCell (by simp) _
  have hap := h.ap
  refine h.sets k { x with now := t } ?_ ?_ ?_ ?_
  · rw [o1.keep h.top (by simpa using hap.1)]; exact h.top.symm
  · rw [← nowCells_at]; exact heap_setCell_same _ g1 k _ _ _ h.now
  · rw [sureCells_still _ k (y := { x with now := t }) hk rfl]; exact o1.keep h.sure (by simpa using hap.2.2.2.1.symm)
  · rw [openCells_still _ k (y := { x with now := t }) hk rfl]; exact o1.keep h.opn (by simpa using hap.2.2.2.2.1.symm)
theorem RefAt.settle1 {wr : World} {b g1 g2 g3 : Nat} {p : Pw} {ss : List Slot} {x : Slot} (hR : RefAt wr b g1 g2 g3 ⟨p, ss⟩) (k : Nat) (hx : ss[k]? = some x) :
    (wr.setCell ⟨g2, k, none⟩ (.string ⟨x.now.toArray⟩)).cell? ⟨b, 2, none⟩ = some (.slice (some ⟨g3, 0, none⟩) ss.length ss.length) ∧
    (wr.setCell ⟨g2, k, none⟩ (.string ⟨x.now.toArray⟩)).cell? ⟨g3, k, none⟩ = some (.bool x.opn) ∧ (wr.setCell ⟨g2, k, none⟩ (.string ⟨x.now.toArray⟩)).frozen? ⟨g3, k, none⟩ = false ∧
    RefAt ((wr.setCell ⟨g2, k, none⟩ (.string ⟨x.now.toArray⟩)).setCell ⟨g3, k, none⟩ (.bool false)) b g1 g2 g3 ⟨p, ss.set k (sure1 x)⟩ := by
  have hap := hR.ap
  have o1 : Only [g2] wr (wr.setCell ⟨g2, k, none⟩ (.string ⟨x.now.toArray⟩)) := (Only.refl _ _).setCell (by simp) _
  have hO := o1.keep hR.opn (by simpa using hap.2.2.2.2.2.symm)
  refine ⟨?_, ?_, Lib.frozen_of_heap hO _, ?_⟩
  · rw [Lib.cell_of_heap (o1.keep hR.top (by simpa using hap.2.1))]; rfl
  · rw [Lib.cell_of_heap hO]; simp [openCells, hx]
  · have o3 : Only [g3] (wr.setCell ⟨g2, k, none⟩ (.string ⟨x.now.toArray⟩)) ((wr.setCell ⟨g2, k, none⟩ (.string ⟨x.now.toArray⟩)).setCell ⟨g3, k, none⟩ (.bool false)) := (Only.refl _ _).setCell (by simp) _
    refine hR.sets k (sure1 x) ?_ ?_ ?_ ?_
    · rw [o3.keep (o1.keep hR.top (by simpa using hap.2.1)) (by simpa using hap.2.2.1)]; exact hR.top.symm
    · rw [nowCells_still _ k (y := sure1 x) hx rfl]; exact o3.keep (o1.keep hR.now (by simpa using hap.2.2.2.1)) (by simpa using hap.2.2.2.2.1)
    · refine o3.keep ?_ (by simpa using hap.2.2.2.2.2)
      rw [← sureCells_at]; exact heap_setCell_same _ g2 k _ _ _ hR.sure
    · rw [← openCells_at]; exact heap_setCell_same _ g3 k _ _ _ hO
theorem RefAt.frozen {w : World} {b g1 g2 g3 : Nat} {s : St} (h : RefAt w b g1 g2 g3 s) (k : Nat) : w.frozen? ⟨g1, k, none⟩ = false ∧ w.frozen? ⟨g2, k, none⟩ = false ∧ w.frozen? ⟨g3, k, none⟩ = false :=
  ⟨Lib.frozen_of_heap h.now _, Lib.frozen_of_heap h.sure _, Lib.frozen_of_heap h.opn _⟩

set_option maxRecDepth 100000 in
set_option maxHeartbeats 4000000 in
theorem refon_any (b g1 g2 g3 : Nat) (s : St) (A : Option Addr) (cap : Nat) (fs : List Int) (w : World) (h : RefAt w b g1 g2 g3 s) (hF : Fts w [b, g1, g2, g3] A fs) (hfs : ∀ f ∈ fs, -9223372036854775808 ≤ f ∧ f ≤ 9223372036854775807) (hfl : fs.length ≤ maxLen) (hsm : St.small s) (htd : Tidy s) :
    Calls Try.prog 42 #[.pointer (some ⟨b, 0, none⟩), .slice A fs.length cap] w fun e w' => e = .returned (.tuple #[]) ∧ RefAt w' b g1 g2 g3 (St.on s fs) ∧ Only [b, g1, g2, g3] w w' := by
  unfold maxLen at hfl
  have H := Lib.hid h
  cases hd : s.pw.down with
  | false =>
    have e2 : St.on s fs = s := by unfold St.on; rw [if_neg (by simp [hd])]
    have c0 := h.tops.2.2.2
    rw [hd] at c0
    rw [e2]
    clear h hd e2 hF hfs hsm htd
    go_enter Try.func42, Try.ntmps42
    go_wp2
    (try simp only [Exit.inBlock, Exit.then]); refine bodyPost_ret (results_none rfl _ _ _) rfl ?_
    exact ⟨rfl, H.out, Only.refl _ _⟩
  | true =>
    obtain ⟨p, hp⟩ : ∃ p : Pw, p = { s.pw with down := false } := ⟨_, rfl⟩
    obtain ⟨ss, hss⟩ : ∃ ss, ss = s.slots := ⟨_, rfl⟩
    have e2 : St.on s fs = ⟨p, rfl_ ss (fateList fs) ss.length⟩ := by
      rw [hp, hss, rfl_all _ _ htd]; unfold St.on; rw [if_pos hd]
    have c0 := h.tops.2.2.2
    rw [hd] at c0
    have z0 : w.frozen? ⟨b, 3, none⟩ = false := Lib.frozen_of_heap h.top _
    have o0 : Only [b] w (w.setCell ⟨b, 3, none⟩ (.bool false)) := (Only.refl _ _).setCell (by simp) _
    have h0 : RefAt (w.setCell ⟨b, 3, none⟩ (.bool false)) b g1 g2 g3 ⟨p, ss⟩ := by
      rw [hp, hss]; exact h.pw (heap_setCell_same _ b 3 _ _ _ h.top) o0
    have hF0 : Fts (w.setCell ⟨b, 3, none⟩ (.bool false)) [b, g1, g2, g3] A fs := hF.only o0 (by simp)
    have hsm' : ∀ (k : Nat) (x : Slot), ss[k]? = some x → x.now.length ≤ 640 ∧ x.sure.length ≤ 640 := by
      intro k x hx
      rw [hss] at hx
      have hl := (List.getElem?_eq_some_iff.1 hx).1
      have he := (List.getElem?_eq_some_iff.1 hx).2
      have := hsm k hl
      rw [he] at this
      exact this
    have hat : ∀ k, k ≤ ss.length → (rfl_ ss (fateList fs) k)[k]? = ss[k]? := fun k hk => (rfl_at ss _ (by rw [hss]; exact htd) k hk k).2 (Nat.le_refl _)
    rw [e2]
    obtain ⟨n, hn⟩ : ∃ n, n = ss.length := ⟨_, rfl⟩
    have hl : n ≤ 128 := by rw [hn, hss]; exact h.len
    have Hn := Lib.hid hn
    have Hsm := Lib.hid hsm'
    have Hat := Lib.hid hat
    have H0 := Lib.hid h0
    have HF := Lib.hid hF0
    have Hfs := Lib.hid hfs
    have Ho0 := Lib.hid o0
    obtain ⟨fl, hfl'⟩ : ∃ fl, fl = fs.length := ⟨_, rfl⟩
    rw [← hfl'] at hfl ⊢
    have Hfl := Lib.hid hfl'
    clear h hd e2 hF hfs hsm htd hp hss h0 hF0 hsm' hat hn o0 H hfl'
    go_enter Try.func42, Try.ntmps42
    go_wp2_with fail
    obtain ⟨w1, hw1⟩ : ∃ w1, w1 = w.setCell ⟨b, 3, none⟩ (.bool false) := ⟨_, rfl⟩
    rw [← hw1] at H0 HF Ho0 ⊢
    clear hw1 c0 z0
    go_loopw [4, 5] (fun q q' wr => ∃ k : Nat, k ≤ n ∧ q = .int .i64 (opens ss k) ∧ q' = .int .i64 k ∧ RefAt wr b g1 g2 g3 ⟨p, rfl_ ss (fateList fs) k⟩ ∧ Only [g1, g2, g3] w1 wr) (fun _ q' _ => n - (intOf q').toNat)
    case atStart => exact ⟨0, by omega, by simp [opens], rfl, H0.out, Only.refl _ _⟩
    case round =>
      obtain ⟨k, hk, rfl, rfl, hR, ho⟩ := hrel
      obtain ⟨d0, d1, d2, -⟩ := hR.tops
      have hrl : (rfl_ ss (fateList fs) k).length = n := by rw [rfl_length]; exact Hn.out.symm
      simp only [hrl] at d0 d1 d2
      obtain ⟨rs, hrs⟩ : ∃ rs, rs = rfl_ ss (fateList fs) k := ⟨_, rfl⟩
      by_cases hkn : k < n
      · have hk' : k < ss.length := by rw [← Hn.out]; exact hkn
        obtain ⟨x, hx⟩ : ∃ x, ss[k]? = some x := ⟨_, List.getElem?_eq_getElem hk'⟩
        have hx' : rs[k]? = some x := by rw [hrs, Hat.out k (by omega), hx]
        rw [← hrs] at hR hrl
        obtain ⟨a1, a2, a3⟩ := hR.cell k hx'
        have k0 : (0 : Int) ≤ (k : Int) := by omega
        have k1 : (k : Int) < (n : Int) := by omega
        have hap := hR.ap
        obtain ⟨m1, m2⟩ := Hsm.out k x hx
        have hsucc := rfl_succ ss (fateList fs) k hx
        have hops := opens_succ ss k hk'
        have hxe : ss[k] = x := (List.getElem?_eq_some_iff.1 hx).2
        rw [hxe] at hops
        rw [← hrs] at hsucc
        have hole := opens_le ss k
        obtain ⟨c, hc⟩ : ∃ c, c = opens ss k := ⟨_, rfl⟩
        rw [← hc] at hsucc hops hole ⊢
        cases hop : x.opn with
        | false =>
          rw [hop] at a3 hsucc hops
          simp only [Bool.false_eq_true, if_false, Nat.add_zero] at hsucc hops
          have HR := Lib.hid hR
          have Hsu := Lib.hid hsucc
          have Hops := Lib.hid hops
          have Ho := Lib.hid ho
          clear hR hsucc hops hc hxe hop hx hx' hrs ho a1 a2 d1 hrl
          go_wp2_with fail
          go_roundw
          case rel => exact ⟨k + 1, by omega, by rw [Hops.out], by go_num, by rw [Hsu.out]; exact HR.out, Ho.out⟩
          case measure => simp [intOf]; omega
        | true =>
          rw [hop] at a3 hsucc hops
          simp only [if_true] at hsucc hops
          obtain ⟨f, hf⟩ : ∃ f, f = (fateList fs).getD (c % (fateList fs).length) 0 := ⟨_, rfl⟩
          rw [← hf] at hsucc
          have hRx := hR
          have HR := Lib.hid hR
          have Hsu := Lib.hid hsucc
          have Hops := Lib.hid hops
          have Ho := Lib.hid ho
          have Hf := Lib.hid hf
          have Hx' := Lib.hid hx'
          have hb : -9223372036854775808 ≤ f ∧ f ≤ 9223372036854775807 := by
            rw [hf]
            by_cases hz : fs = []
            · subst hz; simp [fateList, Nat.mod_one]
            · have hlt : c % (fateList fs).length < (fateList fs).length := Nat.mod_lt _ (fateList_pos fs)
              rw [List.getD_eq_getElem?_getD, List.getElem?_eq_getElem hlt, Option.getD_some]
              have e : fateList fs = fs := by unfold fateList; rw [if_neg hz]
              exact Hfs.out _ (by simp [e])
          clear hR hsucc hops hc hxe hop hx hx' hrs ho hf hRx hrl
          go_upto_if 41 with fail
          go_cut [6] from 22 to 128 (fun v wx => v = .int .i64 f ∧ wx = wr)
          case first =>
            by_cases hz : fs = []
            · have hf0 : f = 0 := by rw [Hf.out, hz]; simp [fateList, Nat.mod_one]
              have hl0 : fl = 0 := by rw [Hfl.out, hz]; rfl
              subst hl0
              have Hf0 := Lib.hid hf0
              clear hf0
              go_wp2_with fail
              go_meet
              case rel => exact ⟨by rw [Hf0.out], rfl⟩
            · have e : fateList fs = fs := by unfold fateList; rw [if_neg hz]
              have hpos : 0 < fs.length := List.length_pos_iff.2 hz
              have hlt : c % fs.length < fs.length := Nat.mod_lt _ hpos
              have hfe : f = fs[c % fs.length]'hlt := by rw [Hf.out]; simp [e, List.getD_eq_getElem?_getD, List.getElem?_eq_getElem hlt]
              obtain ⟨a, rfl, hab, han, hac⟩ := (HF.out.only Ho.out (by simp)) (c % fs.length) hlt
              rw [← hfe] at hac
              rw [← Hfl.out] at hac hlt hpos
              obtain ⟨j, hj⟩ : ∃ j, j = c % fl := ⟨_, rfl⟩
              rw [← hj] at hac hlt
              have tm : (c : Int).tmod (fl : Int) = (j : Int) := by rw [hj]; rfl
              have p1 : (0 : Int) < (fl : Int) := by omega
              have p2 : ((fl : Int) == 0) = false := by simp; omega
              have p3 : ((fl : Int) == -1) = false := by simp
              have j0 : (0 : Int) ≤ (j : Int) := by omega
              have j1 : (j : Int) < (fl : Int) := by omega
              clear hz e hfe hj hab han
              go_wp2_with fail
              go_meet
              case rel => exact ⟨rfl, rfl⟩
          obtain ⟨rfl, rfl⟩ := hcut
          obtain ⟨r, hr⟩ : ∃ r, r = f % 3 := ⟨_, rfl⟩
          have Hm : Hid (∀ w, Calls Try.prog 63 #[.int .i64 f, .int .i64 3] w fun e w' => e = .returned (.int .i64 r) ∧ w = w') := Lib.hid (fun w => by have := mod_any f 3 w hb (by omega) (by omega); rw [hr]; exact this)
          obtain ⟨tn, htn⟩ : ∃ tn, tn = x.now := ⟨_, rfl⟩
          obtain ⟨tu, htu⟩ : ∃ tu, tu = x.sure := ⟨_, rfl⟩
          rw [← htn] at a1 m1
          rw [← htu] at a2 m2
          have zf := (HR.out.frozen k).1
          have HxE : Hid (∃ y, y = x ∧ x.now = tn ∧ x.sure = tu) := Lib.hid ⟨x, rfl, htn.symm, htu.symm⟩
          have Hr := Lib.hid hr
          clear htn htu hr Hf
          go_upto_block 2 with (go_at_call 63; refine (Hm.out _).mono ?_; rintro e wz ⟨rfl, rfl⟩)
          go_cut [9] from 22 to 128 (fun _ wx => RefAt wx b g1 g2 g3 ⟨p, rs.set k { x with now := left x f }⟩ ∧ Only [g1, g2, g3] w1 wx)
          case first =>
            have hm3 : r = 0 ∨ r = 1 ∨ r = 2 := by have := Hr.out; omega
            rcases hm3 with h3 | h3 | h3
            · have e3 : left x f = tu := by unfold left; rw [if_pos (by rw [← Hr.out]; exact h3)]; exact HxE.out.choose_spec.2.2
              have hn := HR.out.setNow k Hx'.out tu
              rw [← e3] at hn
              have Hn' := Lib.hid hn
              have E3 := Lib.hid e3
              subst h3
              clear hn e3
              go_wp2_with fail
              go_meet
              case rel => exact ⟨by rw [E3.out] at Hn'; rw [E3.out]; exact Hn'.out, Ho.out.setCell (by simp) _⟩
            · have e3 : left x f = tn := by unfold left; rw [if_neg (by rw [← Hr.out]; omega), if_pos (by rw [← Hr.out]; exact h3)]; exact HxE.out.choose_spec.2.1
              have hn : rs.set k { x with now := left x f } = rs := by
                rw [e3, ← HxE.out.choose_spec.2.1]
                refine List.set_getElem_self' Hx'.out
              have Hn' := Lib.hid hn
              have b1 : (r == 0) = false := by rw [h3]; rfl
              have b2 : (r == 2) = false := by rw [h3]; rfl
              clear hn e3 h3
              go_wp2_with fail
              go_meet
              case rel => exact ⟨by rw [Hn'.out]; exact HR.out, Ho.out⟩
            · have hq : -9223372036854775808 ≤ f.tdiv 3 ∧ f.tdiv 3 ≤ 9223372036854775807 := by
                have a1 := Int.mul_tdiv_add_tmod f 3
                have a2 : -(3 : Int) < f.tmod 3 := (tmod_facts f 3 (by omega)).1
                have a3 : f.tmod 3 < 3 := (tmod_facts f 3 (by omega)).2.1
                omega
              obtain ⟨q, hqe⟩ : ∃ q, q = f.tdiv 3 := ⟨_, rfl⟩
              obtain ⟨z, hz⟩ : ∃ z : Nat, (z : Int) = q % ((tn.length + 1 : Nat) : Int) := ⟨(q % ((tn.length + 1 : Nat) : Int)).toNat, by have := Int.emod_nonneg q (show ((tn.length + 1 : Nat) : Int) ≠ 0 by omega); omega⟩
              have hz1 : z ≤ tn.length := by have := Int.emod_lt_of_pos q (show (0 : Int) < ((tn.length + 1 : Nat) : Int) by omega); omega
              have e3 : left x f = tn.take z ++ tu.drop z := by
                obtain ⟨_, x1, x2⟩ := HxE.out.choose_spec
                have hk2 : (f.tdiv 3 % ((x.now.length + 1 : Nat) : Int)).toNat = z := by rw [← hqe, x1, ← hz]; simp
                unfold left
                rw [if_neg (by rw [← Hr.out]; omega), if_neg (by rw [← Hr.out]; omega), hk2, x1, x2]
              rw [← hqe] at hq
              have Hq2 : Hid (∀ w, Calls Try.prog 63 #[.int .i64 q, .int .i64 ((tn.length : Int) + 1)] w fun e w' => e = .returned (.int .i64 z) ∧ w = w') := Lib.hid (fun w => by have := mod_any q (tn.length + 1) w hq (by omega) (by omega); rw [← hz] at this; exact this)
              have hqe' : f.tdiv 3 = q := hqe.symm
              have o1 : Only [g1] wc (wc.setCell ⟨g1, k, none⟩ (.string ⟨(tn.take z).toArray⟩)) := (Only.refl _ _).setCell (by simp) _
              have hn1 := HR.out.setNow k Hx'.out (tn.take z)
              have f0 : (wc.setCell ⟨g1, k, none⟩ (.string ⟨(tn.take z).toArray⟩)).cell? ⟨b, 0, none⟩ = some (.slice (some ⟨g1, 0, none⟩) n n) := by
                rw [← d0]; exact o1.cell (heap_lt HR.out.top) (by simpa using hap.1)
              have f1 : (wc.setCell ⟨g1, k, none⟩ (.string ⟨(tn.take z).toArray⟩)).frozen? ⟨g1, k, none⟩ = false := (hn1.frozen k).1
              have hn2 := hn1.setNow k (x := { x with now := tn.take z }) (by rw [List.getElem?_set_self (by have := (List.getElem?_eq_some_iff.1 Hx'.out).1; exact this)]) (tn.take z ++ tu.drop z)
              rw [List.set_set] at hn2
              simp only at hn2
              have b1 : (r == 0) = false := by rw [h3]; rfl
              have b2 : (r == 2) = true := by rw [h3]; rfl
              have z0 : (0 : Int) ≤ (z : Int) := by omega
              have z1 : (z : Int) ≤ (tn.length : Int) := by omega
              have Hn1 := Lib.hid hn1
              have Hn2 := Lib.hid hn2
              have E3 := Lib.hid e3
              have Hap := Lib.hid hap
              obtain ⟨hq1, hq2⟩ := hq
              clear hn1 hn2 e3 h3 hqe hz hap o1
              by_cases hzl : z < tu.length
              · have y1 : (z : Int) < (tu.length : Int) := by omega
                have y2 : decide (z < tu.length) = true := by simpa using hzl
                go_upto_region 18 with (go_at_call 63; refine (Hq2.out _).mono ?_; rintro e wz ⟨rfl, rfl⟩)
                go_region
                go_upto_region 20 with fail
                go_region
                go_wp2_with fail
                go_meet
                case rel => exact ⟨by rw [E3.out]; exact Hn2.out.drew.drew, ((Ho.out.setCell (by simp) _).setCell (by simp) _).drew.drew⟩
              · have y1 : ¬ ((z : Int) < (tu.length : Int)) := by omega
                have y2 : decide (z < tu.length) = false := by simpa using hzl
                have y3 : tu.drop z = [] := List.drop_eq_nil_of_le (by omega)
                have E4 := Lib.hid (E3.out.trans (by rw [y3, List.append_nil] : tn.take z ++ tu.drop z = tn.take z))
                clear y3
                go_upto_region 18 with (go_at_call 63; refine (Hq2.out _).mono ?_; rintro e wz ⟨rfl, rfl⟩)
                go_region
                go_wp2_with fail
                go_meet
                case rel => exact ⟨by rw [E4.out]; exact Hn1.out.drew, (Ho.out.setCell (by simp) _).drew⟩
          obtain ⟨hR, ho⟩ := hcut
          clear a1 a2 a3 d0 d1 d2 zf Hm HR Ho HxE Hr m1 m2 hap
          obtain ⟨d0, d1, d2, -⟩ := hR.tops
          have hrl : (rs.set k { x with now := left x f }).length = n := by
            have := rfl_length ss (fateList fs) (k + 1)
            rw [Hsu.out, List.length_set] at this
            rw [List.length_set, this]; exact Hn.out.symm
          simp only [hrl] at d0 d1 d2
          have hy : (rs.set k { x with now := left x f })[k]? = some { x with now := left x f } := List.getElem?_set_self ((List.getElem?_eq_some_iff.1 Hx'.out).1)
          obtain ⟨a1, a2, a3⟩ := hR.cell k hy
          obtain ⟨e1, e2, e3, hRn⟩ := hR.settle1 k hy
          rw [hrl] at e1
          rw [List.set_set] at hRn
          have z2 : wc.frozen? ⟨g2, k, none⟩ = false := (hR.frozen k).2.1
          obtain ⟨T, hT⟩ : ∃ T, T = left x f := ⟨_, rfl⟩
          simp only [← hT] at a1 a2 a3 e1 e2 e3 hRn
          have Hn3 : Hid (RefAt ((wc.setCell ⟨g2, k, none⟩ (.string ⟨T.toArray⟩)).setCell ⟨g3, k, none⟩ (.bool false)) b g1 g2 g3 ⟨p, rfl_ ss (fateList fs) (k + 1)⟩) := Lib.hid (by rw [Hsu.out, ← hT]; exact hRn)
          have Ho2 : Hid (Only [g1, g2, g3] w1 ((wc.setCell ⟨g2, k, none⟩ (.string ⟨T.toArray⟩)).setCell ⟨g3, k, none⟩ (.bool false))) := Lib.hid ((ho.setCell (by simp) _).setCell (by simp) _)
          clear hR hRn hT hy hrl ho Hsu Hx'
          go_upto_region 21 with fail
          go_region
          go_wp2_with fail
          go_roundw
          case rel => exact ⟨k + 1, by omega, by rw [Hops.out]; go_num, by go_num, Hn3.out.drew, Ho2.out.drew⟩
          case measure => simp [intOf]; omega
      · have hkn : k = n := by omega
        subst hkn
        rw [← hrs] at hR
        have HR : Hid (RefAt wr b g1 g2 g3 ⟨p, rfl_ ss (fateList fs) ss.length⟩) := Lib.hid (by rw [← Hn.out, ← hrs]; exact hR)
        have Ho := Lib.hid ho
        clear hR hrs ho
        go_wp2_with fail
        go_end0
        exact ⟨rfl, HR.out, (Ho0.out.mono (by simp)).trans (Ho.out.mono (by simp))⟩
end Go.Proofs.Ytecofehfheodhaa
