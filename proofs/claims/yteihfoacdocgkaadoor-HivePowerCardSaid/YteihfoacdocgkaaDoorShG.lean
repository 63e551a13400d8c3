/-
  The walks of shelf: On.
-/
import Derived.Test.YteihfoacdocgkaaDoorShAF
import Derived.Deep.RegionWith
set_option linter.unusedVariables false
set_option linter.unusedSimpArgs false
namespace Go.Proofs.YteihfoacdocgkaaDoor
open Go.RowKit Sh
attribute [local go_sem] Lb.ba_get Lb.ba_cut Lb.ba_add Lb.ba_size Lb.take_rest

/-- fates that lie apart from the blocks bs -/
def Fts (w : World) (bs : List Nat) (A : Option Addr) (fs : List Int) : Prop :=
  ∀ (i : Nat) (h : i < fs.length), ∃ a : Addr, A = some a ∧ a.block < w.heap.size ∧ a.block ∉ bs ∧ w.cell? (a.add i) = some (.int .i64 fs[i])
theorem Fts.only {w w' : World} {bs cs : List Nat} {A : Option Addr} {fs : List Int} (h : Fts w bs A fs) (ho : Only cs w w') (hs : ∀ k ∈ cs, k ∈ bs) : Fts w' bs A fs := fun i hi => by
  obtain ⟨a, e, hl, hn, hc⟩ := h i hi
  exact ⟨a, e, Nat.lt_of_lt_of_le hl ho.size, hn, (ho.cell (p := a.add i) (by rw [block_add]; exact hl) (by rw [block_add]; exact fun hk => hn (hs _ hk))).trans hc⟩
theorem Fts.of_ints {w : World} {B : Nat} {bs : List Nat} {A : Option Addr} {fs : List Int} (h : Ints w B A fs) (hB : B ≤ w.heap.size) (hb : ∀ k ∈ bs, B ≤ k) : Fts w bs A fs := fun i hi => by
  obtain ⟨a, e, hl, hc⟩ := h i hi
  exact ⟨a, e, by omega, fun hk => by have := hb _ hk; omega, hc⟩

def fateList (fs : List Int) : List Int := if fs = [] then [0] else fs
theorem fateList_pos (fs : List Int) : 0 < (fateList fs).length := by
  unfold fateList; split
  · simp
  · rename_i h; exact List.length_pos_iff.2 h
/-- how many of the first k slots are unsure -/
def opens (ss : List Slot) (k : Nat) : Nat := ((ss.take k).filter Slot.opn).length
theorem opens_succ (ss : List Slot) (k : Nat) (h : k < ss.length) : opens ss (k + 1) = opens ss k + if (ss[k]).opn then 1 else 0 := by
  unfold opens; rw [List.take_succ_eq_append_getElem h, List.filter_append, List.length_append, List.filter_cons]
  split <;> simp
theorem opens_le (ss : List Slot) (k : Nat) : opens ss k ≤ k := by
  unfold opens; exact Nat.le_trans (List.length_filter_le _ _) (by rw [List.length_take]; omega)
/-- the first k slots have what the fates leave of them -/
def onl (ss : List Slot) (fs : List Int) : Nat → List Slot
  | 0 => ss
  | k + 1 => match ss[k]? with
    | some x => if x.opn then (onl ss fs k).set k { x with now := left x (fs.getD (opens ss k % fs.length) 0) } else onl ss fs k
    | none => onl ss fs k
theorem onl_length (ss : List Slot) (fs : List Int) : ∀ k, (onl ss fs k).length = ss.length
  | 0 => rfl
  | k + 1 => by
    unfold onl; split
    · split
      · rw [List.length_set]; exact onl_length ss fs k
      · exact onl_length ss fs k
    · exact onl_length ss fs k
theorem onl_get (ss : List Slot) (fs : List Int) : ∀ k j, k ≤ j → (onl ss fs k)[j]? = ss[j]?
  | 0, j, _ => rfl
  | k + 1, j, h => by
    unfold onl; split
    · split
      · rw [List.getElem?_set_ne (by omega)]; exact onl_get ss fs k j (by omega)
      · exact onl_get ss fs k j (by omega)
    · exact onl_get ss fs k j (by omega)
theorem onl_getE (ss : List Slot) (fs : List Int) (k : Nat) (h : k < ss.length) : (onl ss fs k)[k]'(by rw [onl_length]; exact h) = ss[k] := by
  have := onl_get ss fs k k (Nat.le_refl _)
  rw [List.getElem?_eq_getElem h, List.getElem?_eq_getElem (by rw [onl_length]; exact h)] at this
  injection this
theorem onl_succ (ss : List Slot) (fs : List Int) (k : Nat) (h : k < ss.length) : onl ss fs (k + 1) = if (ss[k]).opn then (onl ss fs k).set k { ss[k] with now := left ss[k] (fs.getD (opens ss k % fs.length) 0) } else onl ss fs k := by
  conv => lhs; unfold onl
  rw [List.getElem?_eq_getElem h]

def St.on (s : St) (fs : List Int) : St := if s.pw.down then { pw := { s.pw with down := false }, slots := (onl s.slots (fateList fs) s.slots.length).map sure1 } else s
/-- no text is longer than a slot -/
def St.small (s : St) : Prop := ∀ (k : Nat) (h : k < s.slots.length), (s.slots[k]).now.length ≤ 640 ∧ (s.slots[k]).sure.length ≤ 640

set_option maxHeartbeats 2000000 in
theorem on_any (b g : Nat) (s : St) (A : Option Addr) (cap : Nat) (fs : List Int) (w : World) (h : ShAt w b g s) (hF : Fts w [b, g] A fs) (hfs : ∀ f ∈ fs, -9223372036854775808 ≤ f ∧ f ≤ 9223372036854775807) (hfl : fs.length ≤ maxLen) (hsm : St.small s) :
    Calls Tryd.prog 34 #[.pointer (some ⟨b, 0, none⟩), .slice A fs.length cap] w fun e w' => e = .returned (.tuple #[]) ∧ ShAt w' b g (St.on s fs) ∧ Only [b, g] w w' := by
  unfold maxLen at hfl
  have H := Lib.hid h
  cases hd : s.pw.down with
  | false =>
    have e2 : St.on s fs = s := by unfold St.on; rw [if_neg (by simp [hd])]
    have c0 : w.cell? ⟨b, 0, none⟩ = some (.bool false) := by rw [Lib.cell_of_heap h.pw]; simp [pwCells, hd]
    rw [e2]
    clear h hd e2 hF hfs hsm
    go_enter Tryd.func34, Tryd.ntmps34
    go_wp2
    (try simp only [Exit.inBlock, Exit.then]); refine bodyPost_ret (results_none rfl _ _ _) rfl ?_
    exact ⟨rfl, H.out, Only.refl _ _⟩
  | true =>
    have e2 : St.on s fs = St.settle { pw := { s.pw with down := false }, slots := onl s.slots (fateList fs) s.slots.length } := by unfold St.on; rw [if_pos hd]; rfl
    have c0 : w.cell? ⟨b, 0, none⟩ = some (.bool true) := by rw [Lib.cell_of_heap h.pw]; simp [pwCells, hd]
    rw [e2]
    obtain ⟨m, hm⟩ : ∃ m, m = (fateList fs).length := ⟨_, rfl⟩
    have hm0 : 0 < m := by rw [hm]; exact fateList_pos fs
    have hmx : m ≤ 9223372036854775807 := by rw [hm]; unfold fateList; split <;> first | (simp; done) | omega
    have hfb : ∀ f ∈ fateList fs, -9223372036854775808 ≤ f ∧ f ≤ 9223372036854775807 := by unfold fateList; split <;> simp_all
    have Hm := Lib.hid hm
    have Hfb := Lib.hid hfb
    have Hsm := Lib.hid hsm
    have HF := Lib.hid hF
    clear h hd e2 hF hfs hsm hm hfb
    go_enter Tryd.func34, Tryd.ntmps34
    go_upto_if 19 with fail
    go_cut [1] (fun v wx => ∃ (A' : Option Addr) (cap' : Nat), v = .slice A' m cap' ∧ Fts wx [b, g] A' (fateList fs) ∧ ShAt wx b g s ∧ Only [b, g] w wx)
    case first =>
      by_cases hz : fs = []
      · subst hz
        go_wp2_with fail
        go_meet
        case rel =>
          have hm1 : m = 1 := by rw [Hm.out]; simp [fateList]
          refine ⟨some ⟨w.heap.size, 0, none⟩, 1, by rw [hm1], ?_, ?_, (Only.refl _ _).alloc _⟩
          · intro i hi
            have : fateList [] = [0] := by simp [fateList]
            have hi0 : i = 0 := by rw [this] at hi; simpa using hi
            subst hi0
            refine ⟨_, rfl, by simp, ?_, ?_⟩
            · have h1 := heap_lt H.out.pw
              have h2 := heap_lt H.out.slots
              simp; omega
            · have hh : (w.alloc (.cells #[.int .i64 0] 3)).cell? ⟨w.heap.size, 0, none⟩ = some (.int .i64 0) := by
                rw [Lib.cell_of_heap (show ((w.alloc (.cells #[.int .i64 0] 3)).heap[w.heap.size]? = some (.cells #[.int .i64 0] 3 (0, 0))) from heap_alloc_new w _)]; rfl
              exact hh
          · exact ⟨((Only.refl [] w).alloc _).keep H.out.pw (by simp), ((Only.refl [] w).alloc _).keep H.out.slots (by simp), H.out.ne, H.out.len⟩
      · have e : fateList fs = fs := by unfold fateList; rw [if_neg hz]
        have hz1 : ((fs.length : Int) == 0) = false := by have := List.length_pos_iff.2 hz; simp [hz]
        have HF' := HF.out
        have Hm' := Hm.out
        have E := Lib.hid e
        clear e hz
        go_wp2_with fail
        go_meet
        case rel => exact ⟨A, cap, by rw [Hm', E.out], by rw [E.out]; exact HF', H.out, Only.refl _ _⟩
    case rest => 
      obtain ⟨A', cap', rfl, hF1, h1, ho1⟩ := hcut
      clear HF c0 hfl H
      have HF := Lib.hid hF1
      have H := Lib.hid h1
      clear hF1 h1
      obtain ⟨n, hn⟩ : ∃ n, n = s.slots.length := ⟨_, rfl⟩
      have hl := H.out.len
      have c4 : wc.cell? ⟨b, 4, none⟩ = some (.slice (some ⟨g, 0, none⟩) n n) := by rw [Lib.cell_of_heap H.out.pw, hn]; rfl
      rw [← hn] at hl
      have Hn := Lib.hid hn
      clear hn
      go_wp2_with fail
      go_loopw [4, 26] (fun c p wr => ∃ k : Nat, k ≤ n ∧ p = .int .i64 k ∧ c = .int .i64 (opens s.slots k) ∧ SlotsAt wr g (onl s.slots (fateList fs) k) ∧ Only [g] wc wr) (fun _ p _ => n - (intOf p).toNat)
      case atStart => exact ⟨0, by omega, rfl, by simp [opens], H.out.slots, Only.refl _ _⟩
      case round =>
        obtain ⟨k, hk, rfl, rfl, hS, ho⟩ := hrel
        have HS := Lib.hid hS
        clear hS
        by_cases he : k < n
        · have hk' : k < s.slots.length := by rw [← Hn.out]; exact he
          have hkl : k < (onl s.slots (fateList fs) k).length := by rw [onl_length]; exact hk'
          have d4 : wr.cell? ⟨b, 4, none⟩ = some (.slice (some ⟨g, 0, none⟩) n n) := by
            rw [Lib.cell_of_heap (ho.keep H.out.pw (by simpa using H.out.ne)), Hn.out]; rfl
          have d0 : wr.cell? ⟨g, k * 3, none⟩ = some (.string ⟨(s.slots[k]).now.toArray⟩) := by
            rw [Lib.cell_of_heap HS.out]
            have := (slotCells_get _ k hkl).1
            rw [onl_getE _ _ _ hk'] at this
            simpa using this
          have d1 : wr.cell? ⟨g, k * 3 + 1, none⟩ = some (.string ⟨(s.slots[k]).sure.toArray⟩) := by
            rw [Lib.cell_of_heap HS.out]
            have := (slotCells_get _ k hkl).2.1
            rw [onl_getE _ _ _ hk'] at this
            simpa using this
          have d2 : wr.cell? ⟨g, k * 3 + 2, none⟩ = some (.bool (s.slots[k]).opn) := by
            rw [Lib.cell_of_heap HS.out]
            have := (slotCells_get _ k hkl).2.2
            rw [onl_getE _ _ _ hk'] at this
            simpa using this
          have z0 : wr.frozen? ⟨g, k * 3, none⟩ = false := Lib.frozen_of_heap HS.out _
          have Hset := Lib.hid (onl_succ s.slots (fateList fs) k hk')
          have Hop := Lib.hid (opens_succ s.slots k hk')
          have hsml := Hsm.out k hk'
          have Hge := Lib.hid (onl_getE s.slots (fateList fs) k hk')
          have hkl2 : k < (onl s.slots (fateList fs) k).length := hkl
          obtain ⟨x, hx⟩ : ∃ x, x = s.slots[k] := ⟨_, rfl⟩
          rw [← hx] at d0 d1 d2 Hset Hop hsml Hge
          have hol := opens_le s.slots k
          have he' : (k : Int) < (n : Int) := by omega
          have he0 : (0 : Int) ≤ (k : Int) := by omega
          clear hx hkl
          obtain ⟨nw, su, op⟩ := x
          simp only at d0 d1 d2 hsml
          cases op with
          | false =>
            obtain ⟨c, hc⟩ : ∃ c, c = opens s.slots k := ⟨_, rfl⟩
            rw [← hc] at hol Hop ⊢
            go_wp2_with fail
            go_roundw
            case rel =>
              have h1 : opens s.slots (k + 1) = c := by rw [Hop.out]; simp
              have h2 : onl s.slots (fateList fs) (k + 1) = onl s.slots (fateList fs) k := by rw [Hset.out]; simp
              exact ⟨k + 1, by omega, by go_num, by rw [h1], by rw [h2]; exact ((Only.refl [] wr).alloc _).keep HS.out (by simp), ho.alloc _⟩
            case measure => simp [intOf]; omega
          | true =>
            obtain ⟨c, hc⟩ : ∃ c, c = opens s.slots k := ⟨_, rfl⟩
            rw [← hc] at hol Hop Hset ⊢
            rw [← Hm.out] at Hset
            obtain ⟨q, hq⟩ : ∃ q, q = c % m := ⟨_, rfl⟩
            rw [← hq] at Hset
            have hqm : q < m := by rw [hq]; exact Nat.mod_lt _ hm0
            have tq : (c : Int).tmod (m : Int) = (q : Int) := by rw [hq]; rfl
            obtain ⟨a, hA, hab, han, hcell⟩ := HF.out q (by rw [← Hm.out]; exact hqm)
            subst hA
            obtain ⟨f, hf⟩ : ∃ f, f = (fateList fs)[q]'(by rw [← Hm.out]; exact hqm) := ⟨_, rfl⟩
            rw [← hf] at hcell
            have hfb := Hfb.out f (by rw [hf]; exact List.getElem_mem _)
            have hgd : (fateList fs).getD q 0 = f := by rw [hf]; simp [List.getD, List.getElem?_eq_getElem (show q < (fateList fs).length by rw [← Hm.out]; exact hqm)]
            rw [hgd] at Hset
            have m0 : ((m : Int) == 0) = false := by simp; omega
            have q0 : (0 : Int) ≤ (q : Int) := by omega
            have q1 : (q : Int) < (m : Int) := by omega
            clear hc hq hf hgd
            have hgn : g ≠ b := fun e => H.out.ne e.symm
            have hab2 : a.block < wr.heap.size := Nat.lt_of_lt_of_le hab ho.size
            have ha0 : wr.cell? (a.add q) = some (.int .i64 f) := (ho.cell (p := a.add q) (by rw [block_add]; exact hab) (by rw [block_add]; simp at han ⊢; exact han.2)).trans hcell
            have hoa : Below wr.heap.size wr (wr.alloc (.cells #[.string ⟨nw.toArray⟩, .string ⟨su.toArray⟩, .bool true] 141)) := (Below.refl _ wr).alloc (Nat.le_refl _) _
            have ha1 := (hoa.cell (p := a.add q) (by rw [block_add]; exact hab2)).trans ha0
            have hga := below_keep hoa HS.out
            have hba := below_keep hoa (ho.keep H.out.pw (by simpa using H.out.ne))
            have HGA := Lib.hid hga
            have HBA := Lib.hid hba
            have e4 : (wr.alloc (.cells #[.string ⟨nw.toArray⟩, .string ⟨su.toArray⟩, .bool true] 141)).cell? ⟨b, 4, none⟩ = some (.slice (some ⟨g, 0, none⟩) n n) := by rw [Lib.cell_of_heap hba, Hn.out]; rfl
            clear hga hba
            have haft : ∀ w3, Below (wr.alloc (.cells #[.string ⟨nw.toArray⟩, .string ⟨su.toArray⟩, .bool true] 141)).drew.heap.size (wr.alloc (.cells #[.string ⟨nw.toArray⟩, .string ⟨su.toArray⟩, .bool true] 141)).drew w3 →
                w3.frozen? ⟨g, k * 3, none⟩ = false ∧ w3.cell? ⟨g, k * 3, none⟩ = some (.string ⟨nw.toArray⟩) ∧ w3.cell? ⟨b, 4, none⟩ = some (.slice (some ⟨g, 0, none⟩) n n) ∧ Hid (SlotsAt w3 g (onl s.slots (fateList fs) k) ∧ Only [g] wc w3) := by
              intro w3 hB3
              have hg3 : w3.heap[g]? = _ := below_keep hB3 HGA.out
              refine ⟨Lib.frozen_of_heap hg3 _, (hB3.cell (p := ⟨g, k * 3, none⟩) (heap_lt HGA.out)).trans ?_, ?_, Lib.hid ⟨hg3, (ho.alloc _).drew.trans (Only.of_below hB3)⟩⟩
              · exact (hoa.cell (p := ⟨g, k * 3, none⟩) (heap_lt HS.out)).trans d0
              · rw [Lib.cell_of_heap (below_keep hB3 HBA.out), Hn.out]; rfl
            have Haft := Lib.hid haft
            clear haft HGA HBA
            go_upto_region 8 with fail
            go_region_with (go_at_call 78; go_loud (refine (left_any ⟨nw, su, true⟩ f _ hfb hsml.1 hsml.2).mono ?_; rintro e w3 ⟨rfl, hB3⟩; obtain ⟨zz, z5, z4, HGB⟩ := Haft.out w3 hB3; clear hB3))
            all_goals
              go_wp2
              go_roundw
              case rel =>
                have h1 : opens s.slots (k + 1) = c + 1 := by rw [Hop.out]; simp
                refine ⟨k + 1, by omega, by go_num, by rw [h1]; go_num, ?_, HGB.out.2.setCell (by simp) _⟩
                have a1 := heap_setCell_same _ g (k * 3) _ _ (.string ⟨(left { now := nw, sure := su, opn := true } f).toArray⟩) HGB.out.1
                have e := slotCells_set (onl s.slots (fateList fs) k) k hkl2 (left { now := nw, sure := su, opn := true } f)
                rw [Hge.out] at e
                have e3 : onl s.slots (fateList fs) (k + 1) = (onl s.slots (fateList fs) k).set k { now := left { now := nw, sure := su, opn := true } f, sure := su, opn := true } := by rw [Hset.out]; simp
                unfold SlotsAt
                refine a1.trans ?_
                rw [e3]
                simp [List.setIfInBounds_toArray, e]
              case measure => simp [intOf]; omega
        · have hkn : k = n := by omega
          subst hkn
          have hp1 := ho.keep H.out.pw (by simpa using H.out.ne)
          have d0 : ∃ v, wr.cell? ⟨b, 0, none⟩ = some v := ⟨.bool s.pw.down, by rw [Lib.cell_of_heap hp1]; rfl⟩
          obtain ⟨v0, d0⟩ := d0
          have z0 : wr.frozen? ⟨b, 0, none⟩ = false := Lib.frozen_of_heap hp1 _
          have Hp1 := Lib.hid hp1
          clear hp1
          go_wp2_with fail
          have h2 : ShAt (wr.setCell ⟨b, 0, none⟩ (.bool false)) b g { pw := { s.pw with down := false }, slots := onl s.slots (fateList fs) s.slots.length } := by
            refine ⟨?_, ?_, H.out.ne, ?_⟩
            · have a1 := heap_setCell_same _ b 0 _ _ (.bool false) Hp1.out
              unfold PwAt
              refine a1.trans ?_
              simp [pwCells, onl_length]
            · have := (((Only.refl [b] wr).setCell (p := ⟨b, 0, none⟩) (by simp) (.bool false))).keep HS.out (by simpa using fun e => H.out.ne e.symm)
              rw [← Hn.out]; exact this
            · simp only [onl_length]; exact H.out.len
          have ho2 : Only [b, g] w (wr.setCell ⟨b, 0, none⟩ (.bool false)) := (ho1.trans (ho.mono (by simp))).setCell (by simp) _
          refine (shsettle_any b g _ _ h2).mono ?_
          rintro e w5 ⟨rfl, h5, ho5⟩
          go_wp2
          go_end0
          exact ⟨rfl, h5, ho2.trans (ho5.mono (by simp))⟩
end Go.Proofs.YteihfoacdocgkaaDoor
