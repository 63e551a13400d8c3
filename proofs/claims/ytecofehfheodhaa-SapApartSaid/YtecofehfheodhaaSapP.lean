/-
  The walk of SapApart.
-/
import Derived.Test.YtecofehfheodhaaSapO
set_option linter.unusedVariables false
set_option linter.unusedSimpArgs false
namespace Go.Proofs.Ytecofehfheodhaa
open Go.RowKit Pl
attribute [local go_sem] Lb.ba_get Lb.ba_cut Lb.ba_add Lb.ba_size Lb.take_rest

/-! plain: no thing's bytes begin with another one's -/
theorem prefix_of_take {x y : List UInt8} {k : Nat} (hk : k = min x.length y.length) (h : x.take k = y.take k) : (∃ r, y = x ++ r) ∨ (∃ r, x = y ++ r) := by
  rcases Nat.le_total x.length y.length with hl | hl
  · left
    refine ⟨y.drop k, ?_⟩
    rw [show x = x.take k from (List.take_of_length_le (by omega)).symm, h, List.take_append_drop]
  · right
    refine ⟨x.drop k, ?_⟩
    rw [show y = y.take k from (List.take_of_length_le (by omega)).symm, ← h, List.take_append_drop]

theorem num_apart {a b : Int} {k : Nat} (ha0 : -9223372036854775808 ≤ a) (ha1 : a ≤ 9223372036854775807) (hb0 : -9223372036854775808 ≤ b) (hb1 : b ≤ 9223372036854775807) (hk : k = min (num a).length (num b).length) :
    (num a).take k = (num b).take k ↔ a = b := by
  constructor
  · intro h
    rcases prefix_of_take hk h with ⟨r, hr⟩ | ⟨r, hr⟩
    · have := @num_inj b a hb0 hb1 ha0 ha1 [] r (by simpa using hr)
      exact this.1.symm
    · have := @num_inj a b ha0 ha1 hb0 hb1 [] r (by simpa using hr)
      exact this.1
  · rintro rfl; rfl

theorem row_inj {a b : List (List UInt8)} {x y : List UInt8} (ha : a.length ≤ 9223372036854775807) (ha' : ∀ t ∈ a, t.length ≤ 9223372036854775807) (hb : b.length ≤ 9223372036854775807) (hb' : ∀ t ∈ b, t.length ≤ 9223372036854775807)
    (h : rowB a ++ x = rowB b ++ y) : a = b ∧ x = y := by
  have e1 := rd_of_row a x 9223372036854775807 ha ha'
  have e2 := rd_of_row b y 9223372036854775807 hb hb'
  rw [if_pos (by omega)] at e1 e2
  rw [h, e2] at e1
  simp only [Option.some.injEq, Prod.mk.injEq] at e1
  exact ⟨e1.1.symm, e1.2.symm⟩

theorem row_apart {a b : List (List UInt8)} {k : Nat} (ha : a.length ≤ 9223372036854775807) (ha' : ∀ t ∈ a, t.length ≤ 9223372036854775807) (hb : b.length ≤ 9223372036854775807) (hb' : ∀ t ∈ b, t.length ≤ 9223372036854775807)
    (hk : k = min (rowB a).length (rowB b).length) : (rowB a).take k = (rowB b).take k ↔ a = b := by
  constructor
  · intro h
    rcases prefix_of_take hk h with ⟨r, hr⟩ | ⟨r, hr⟩
    · have := @row_inj b a [] r hb hb' ha ha' (by simpa using hr)
      exact this.1.symm
    · have := @row_inj a b [] r ha ha' hb hb' (by simpa using hr)
      exact this.1
  · rintro rfl; rfl

theorem num_cut {a : Int} {c : Nat} (ha0 : -9223372036854775808 ≤ a) (ha1 : a ≤ 9223372036854775807) (hc : c < (num a).length) : rdNum ((num a).take c) = none := by
  cases h : rdNum ((num a).take c) with
  | none => rfl
  | some p =>
    obtain ⟨n, r⟩ := p
    have h1 := num_of_rd h
    have h2 := rdNum_bounds h
    have h3 := @num_inj a n ha0 ha1 h2.1 h2.2.1 [] (r ++ (num a).drop c) (by rw [List.append_nil, ← List.append_assoc, h1, List.take_append_drop])
    have := congrArg List.length h3.2
    simp at this
    omega

theorem row_cut {a : List (List UInt8)} {c : Nat} {most : Int} (ha : a.length ≤ 9223372036854775807) (ha' : ∀ t ∈ a, t.length ≤ 9223372036854775807) (hl : (rowB a).length ≤ 9223372036854775807) (hc : c < (rowB a).length) : rdRow ((rowB a).take c) most = none := by
  cases h : rdRow ((rowB a).take c) most with
  | none => rfl
  | some p =>
    obtain ⟨ts, r⟩ := p
    have h1 := row_of_rd h
    have h4 := congrArg List.length h1
    rw [List.length_append] at h4
    have h5 := textsB_ge ts
    have h6 : ∀ t ∈ ts, t.length ≤ (textsB ts).length := by
      intro t ht
      obtain ⟨i, hi, rfl⟩ := List.getElem_of_mem ht
      have := textB_le ts i hi
      have : (ts[i]).length ≤ (textB ts[i]).length := by simp [textB]
      omega
    have h7 : (textsB ts).length ≤ (rowB ts).length := by simp [rowB]
    have h8 : ((rowB a).take c).length ≤ (rowB a).length := by simp; omega
    have h3 := @row_inj a ts [] (r ++ (rowB a).drop c) ha ha' (by omega) (fun t ht => by have := h6 t ht; omega) (by rw [List.append_nil, ← List.append_assoc, h1, List.take_append_drop])
    have := congrArg List.length h3.2
    simp at this
    omega

set_option maxHeartbeats 4000000 in
set_option maxRecDepth 100000 in
theorem sapApart_early (a b : Int) (A A' : Option Addr) (ca ca' : Nat) (x y : List (List UInt8)) (cut : Int) (w : World) (hx : x.length ≤ 9223372036854775807) (hy : y.length ≤ 9223372036854775807) (h : 40 < x.length ∨ x.length ≤ 40 ∧ 40 < y.length) :
    Calls Try.prog 7 #[.agg #[.int .i64 a, .slice A x.length ca], .agg #[.int .i64 b, .slice A' y.length ca'], .int .i64 cut] w fun e w' => e = .returned (.bool true) ∧ Below w.heap.size w w' := by
  rcases h with h | ⟨h, h'⟩
  all_goals
    go_enter Try.func7, Try.ntmps7
    go_wp2_with fail
    refine (awake_any _).mono ?_
    rintro e w1 ⟨rfl, hB⟩
    simp only [World.size_alloc] at hB
    have c0 : w1.cell? ⟨w.heap.size, 1, none⟩ = some (.slice A x.length ca) := (hB.cell (p := ⟨w.heap.size, 1, none⟩) (by simp; omega)).trans (by simp)
    have c1 : w1.cell? ⟨w.heap.size + 1, 1, none⟩ = some (.slice A' y.length ca') := (hB.cell (p := ⟨w.heap.size + 1, 1, none⟩) (by simp)).trans (by simp)
    go_wp2
    go_ret
    exact ⟨rfl, (((Below.refl _ _).alloc (Nat.le_refl _) _).alloc (by simp) _).trans (hB.mono (by omega))⟩

/-- a boxed Thing -/
def Boxed (wx : World) (b : Nat) (a : Int) (A : Option Addr) (n ca : Nat) : Prop := wx.cell? ⟨b, 0, none⟩ = some (.int .i64 a) ∧ wx.cell? ⟨b, 1, none⟩ = some (.slice A n ca) ∧ b < wx.heap.size
theorem Boxed.below {wx wy : World} {b : Nat} {a : Int} {A : Option Addr} {n ca : Nat} (h : Boxed wx b a A n ca) (hb : Below wx.heap.size wx wy) : Boxed wy b a A n ca :=
  ⟨(hb.cell (p := ⟨b, 0, none⟩) h.2.2).trans h.1, (hb.cell (p := ⟨b, 1, none⟩) h.2.2).trans h.2.1, Nat.lt_of_lt_of_le h.2.2 hb.size⟩

set_option maxHeartbeats 8000000 in
set_option maxRecDepth 100000 in
theorem sapApart_go (a b : Int) (A A' : Option Addr) (ca ca' : Nat) (x y : List (List UInt8)) (cut : Int) (w : World) (hx : x.length ≤ 40) (hy : y.length ≤ 40) (ha : -9223372036854775808 ≤ a ∧ a ≤ 9223372036854775807) (hb : -9223372036854775808 ≤ b ∧ b ≤ 9223372036854775807)
    (hS : Strs w w.heap.size A x) (hS' : Strs w w.heap.size A' y) (he : ∀ s ∈ x, s.length ≤ 9223372036854775807) (he' : ∀ s ∈ y, s.length ≤ 9223372036854775807) :
    Calls Try.prog 7 #[.agg #[.int .i64 a, .slice A x.length ca], .agg #[.int .i64 b, .slice A' y.length ca'], .int .i64 cut] w fun e w' => e = .returned (.bool true) ∧ Below w.heap.size w w' := by
  have HS := Lib.hid hS
  have HS' := Lib.hid hS'
  have He := Lib.hid he
  have He' := Lib.hid he'
  obtain ⟨n, hn⟩ : ∃ n, n = x.length := ⟨_, rfl⟩
  obtain ⟨m, hm⟩ : ∃ m, m = y.length := ⟨_, rfl⟩
  have Hn := Lib.hid hn
  have Hm := Lib.hid hm
  rw [← hn] at hx ⊢
  rw [← hm] at hy ⊢
  have e1 : decide ((40 : Int) < (n : Int)) = false := by simp; omega
  have e2 : decide ((40 : Int) < (m : Int)) = false := by simp; omega
  clear hS hS' he he' hn hm
  go_enter Try.func7, Try.ntmps7
  go_wp2_with fail
  refine (awake_any _).mono ?_
  rintro e w1 ⟨rfl, hB⟩
  simp only [World.size_alloc] at hB
  have hb0 := (((Below.refl w.heap.size w).alloc (Nat.le_refl _) (.cells #[.int .i64 a, .slice A n ca] 41)).alloc (by simp) (.cells #[.int .i64 b, .slice A' m ca'] 41)).trans (hB.mono (by omega))
  have hsz1 := hB.size
  simp only [World.size_alloc] at hsz1
  have x1 : Boxed w1 w.heap.size a A n ca := ⟨(hB.cell (p := ⟨w.heap.size, 0, none⟩) (by simp; omega)).trans (by simp), (hB.cell (p := ⟨w.heap.size, 1, none⟩) (by simp; omega)).trans (by simp), by omega⟩
  have y1 : Boxed w1 (w.heap.size + 1) b A' m ca' := ⟨(hB.cell (p := ⟨w.heap.size + 1, 0, none⟩) (by simp)).trans (by simp), (hB.cell (p := ⟨w.heap.size + 1, 1, none⟩) (by simp)).trans (by simp), by omega⟩
  have X1 := Lib.hid x1
  have Y1 := Lib.hid y1
  have c1 := x1.2.1
  have d1 := y1.2.1
  have S1 := Lib.hid ((HS.out.below hb0 (Nat.le_refl _)).more hb0.size)
  have T1 := Lib.hid ((HS'.out.below hb0 (Nat.le_refl _)).more hb0.size)
  clear hB x1 y1
  go_wp2
  go_loop [7] (fun p => ∃ i : Nat, i ≤ n ∧ p = .int .i64 i ∧ ∀ (j : Nat) (hj : j < x.length), j < i → (x[j]).length ≤ 1024) (fun p => n - (intOf p).toNat)
  case atStart => exact ⟨0, by omega, rfl, fun j hj h => absurd h (by omega)⟩
  case round =>
    obtain ⟨i, hi, rfl, hall⟩ := hrel
    by_cases hin : i < n
    · have hlt : i < x.length := by rw [← Hn.out]; exact hin
      obtain ⟨ad, rfl, hab, hc⟩ := S1.out i hlt
      have hbnd := He.out _ (List.getElem_mem hlt)
      have Hall := Lib.hid hall
      obtain ⟨t, ht⟩ : ∃ t, t = x[i] := ⟨_, rfl⟩
      have Ht := Lib.hid ht
      rw [← ht] at hc hbnd
      clear ht hall
      by_cases hlen : t.length ≤ 1024
      · go_wp2
        go_round
        case rel =>
          refine ⟨i + 1, by omega, by go_num, fun j hj h => ?_⟩
          by_cases e : j = i
          · subst e; rw [← Ht.out]; exact hlen
          · exact Hall.out j hj (by omega)
        case measure => simp [intOf]; omega
      · go_wp2
        go_ret
        exact ⟨rfl, hb0⟩
    · obtain rfl : i = n := by omega
      have Hbx := Lib.hid (all_of_take fun j hj => hall j hj (by rw [Hn.out]; exact hj))
      clear hall
      go_wp2
      go_loop [8] (fun p => ∃ k : Nat, k ≤ m ∧ p = .int .i64 k ∧ ∀ (j : Nat) (hj : j < y.length), j < k → (y[j]).length ≤ 1024) (fun p => m - (intOf p).toNat)
      case atStart => exact ⟨0, by omega, rfl, fun j hj h => absurd h (by omega)⟩
      case round =>
        obtain ⟨k, hk, rfl, hall⟩ := hrel
        by_cases hkm : k < m
        · have hlt : k < y.length := by rw [← Hm.out]; exact hkm
          obtain ⟨ad, rfl, hab, hc⟩ := T1.out k hlt
          have hbnd := He'.out _ (List.getElem_mem hlt)
          have Hall := Lib.hid hall
          obtain ⟨t, ht⟩ : ∃ t, t = y[k] := ⟨_, rfl⟩
          have Ht := Lib.hid ht
          rw [← ht] at hc hbnd
          clear ht hall
          by_cases hlen : t.length ≤ 1024
          · go_wp2
            go_round
            case rel =>
              refine ⟨k + 1, by omega, by go_num, fun j hj h => ?_⟩
              by_cases e : j = k
              · subst e; rw [← Ht.out]; exact hlen
              · exact Hall.out j hj (by omega)
            case measure => simp [intOf]; omega
          · go_wp2
            go_ret
            exact ⟨rfl, hb0⟩
        · obtain rfl : k = m := by omega
          have Hby := Lib.hid (all_of_take fun j hj => hall j hj (by rw [Hm.out]; exact hj))
          clear hall
          have hnx := num_length_le a ha.1 ha.2
          have hny := num_length_le b hb.1 hb.2
          have c2 := X1.out.1
          go_wp2_with fail
          refine (num_any a _ ha.1 ha.2).mono ?_
          rintro e w2 ⟨rfl, hB2⟩
          have b2 := hb0.trans (hB2.mono hb0.size)
          have X2 := Lib.hid (X1.out.below hB2)
          have Y2 := Lib.hid (Y1.out.below hB2)
          have d2 := Y2.out.1
          clear c1 c2 d1 hB2 X1 Y1 hb0
          go_wp2_with fail
          refine (num_any b _ hb.1 hb.2).mono ?_
          rintro e w3 ⟨rfl, hB3⟩
          have b3 := b2.trans (hB3.mono b2.size)
          have X3 := Lib.hid (X2.out.below hB3)
          have Y3 := Lib.hid (Y2.out.below hB3)
          clear d2 hB3 X2 Y2 b2
          obtain ⟨q, hq⟩ : ∃ q, q = min (num a).length (num b).length := ⟨_, rfl⟩
          have hmin : (min ((num a).length : Int) ((num b).length : Int)) = (q : Int) := by rw [hq]; omega
          have hq1 : (q : Int) ≤ ((num a).length : Int) := by omega
          have hq2 : (q : Int) ≤ ((num b).length : Int) := by omega
          have hq0 : (0 : Int) ≤ (q : Int) := by omega
          have Hap := Lib.hid (num_apart ha.1 ha.2 hb.1 hb.2 hq)
          clear hq
          have c3 := X3.out.1
          have d3 := Y3.out.1
          go_upto_region 18 with fail
          go_cut [84] (fun s wx => s = .bool false ∧ ∃ k, wx = w3.drewN k)
          case first =>
            by_cases hab : a = b
            · subst hab
              have t1 : ((num a).take q == (num a).take q) = true := by simp
              have t2 : (a == a) = true := by simp
              go_quiet (fail)
              go_wp2_with fail
              go_meet
              case rel => exact ⟨by simp, _, rfl⟩
            · have t1 : ((num a).take q == (num b).take q) = false := by simpa using fun h => hab (Hap.out.1 h)
              have t2 : (a == b) = false := by simpa using hab
              go_quiet (fail)
              go_wp2_with fail
              go_meet
              case rel => exact ⟨by simp, _, rfl⟩
          case rest =>
            obtain ⟨rfl, z, rfl⟩ := hcut
            have b4 : Below w.heap.size w (w3.drewN z) := below_drewN b3 z
            have X4 : Hid (Boxed (w3.drewN z) w.heap.size a A i ca) := X3
            have Y4 : Hid (Boxed (w3.drewN z) (w.heap.size + 1) b A' k ca') := Y3
            have c4 := X4.out.2.1
            have S4 := Lib.hid ((HS.out.below b4 (Nat.le_refl _)).more b4.size)
            clear b3 c3 d3 X3 Y3 Hap
            have hrx : (rowB x).length ≤ 600000 := by
              have h1 := sum_le_of x 1024 Hbx.out
              have h2 := rowB_le9 x (by rw [← Hn.out]; omega) He.out
              rw [← Hn.out] at h1; omega
            have hry : (rowB y).length ≤ 600000 := by
              have h1 := sum_le_of y 1024 Hby.out
              have h2 := rowB_le9 y (by rw [← Hm.out]; omega) He'.out
              rw [← Hm.out] at h1; omega
            have rx := fun wx hS => row_any A ca x wx hS (by omega)
            have ry := fun wx hS => row_any A' ca' y wx hS (by omega)
            rw [← Hn.out] at rx
            rw [← Hm.out] at ry
            have Rx := Lib.hid rx
            have Ry := Lib.hid ry
            clear rx ry
            go_wp2_with fail
            refine (Rx.out _ S4.out).mono ?_
            rintro e w5 ⟨rfl, hB5⟩
            have b5 := b4.trans (hB5.mono b4.size)
            have X5 := Lib.hid (X4.out.below hB5)
            have Y5 := Lib.hid (Y4.out.below hB5)
            have c5 := Y5.out.2.1
            have T5 := Lib.hid ((HS'.out.below b5 (Nat.le_refl _)).more b5.size)
            clear b4 c4 hB5 X4 Y4 S4
            go_wp2_with fail
            refine (Ry.out _ T5.out).mono ?_
            rintro e w6 ⟨rfl, hB6⟩
            have b6 := b5.trans (hB6.mono b5.size)
            have X6 := Lib.hid (X5.out.below hB6)
            have Y6 := Lib.hid (Y5.out.below hB6)
            have c6 := X6.out.2.1
            have d6 := Y6.out.2.1
            have S6 := Lib.hid ((HS.out.below b6 (Nat.le_refl _)).more b6.size)
            have T6 := Lib.hid ((HS'.out.below b6 (Nat.le_refl _)).more b6.size)
            clear b5 c5 hB6 X5 Y5 T5 Rx Ry
            obtain ⟨p, hp⟩ : ∃ p, p = min (rowB x).length (rowB y).length := ⟨_, rfl⟩
            have hmin2 : (min ((rowB x).length : Int) ((rowB y).length : Int)) = (p : Int) := by rw [hp]; omega
            have hp1 : (p : Int) ≤ ((rowB x).length : Int) := by omega
            have hp2 : (p : Int) ≤ ((rowB y).length : Int) := by omega
            have hp0 : (0 : Int) ≤ (p : Int) := by omega
            have Hap2 := Lib.hid (row_apart (a := x) (b := y) (by rw [← Hn.out]; omega) He.out (by rw [← Hm.out]; omega) He'.out hp)
            clear hp
            have sq := fun (nq : Nat) => same_q A A' ca ca' x y (w6.drewN nq) (S6.out : Strs (w6.drewN nq) (w6.drewN nq).heap.size A x) (T6.out : Strs (w6.drewN nq) (w6.drewN nq).heap.size A' y) (by rw [← Hn.out]; omega) (by rw [← Hm.out]; omega)
            rw [← Hn.out, ← Hm.out] at sq
            have Sq := Lib.hid sq
            clear sq
            go_upto_region 23 with fail
            go_cut [108] (fun s wx => s = .bool false ∧ ∃ k, wx = w6.drewN k)
            case first =>
              by_cases hab : x = y
              · have t1 : ((rowB x).take p == (rowB y).take p) = true := by rw [hab]; simp
                have t2 : sameB x y = true := by rw [hab]; exact sameB_self y
                have Sq' := Sq.out
                rw [t2] at Sq'
                have SQ := Lib.hid Sq'
                clear Sq' Sq
                go_quiet ((go_at_call 28; exact Calls.quiet_of (SQ.out _)))
                go_wp2_with fail
                go_meet
                case rel => exact ⟨by simp, _, rfl⟩
              · have t1 : ((rowB x).take p == (rowB y).take p) = false := by simpa using fun h => hab (Hap2.out.1 h)
                have t2 : sameB x y = false := by simpa [sameB] using hab
                have Sq' := Sq.out
                rw [t2] at Sq'
                have SQ := Lib.hid Sq'
                clear Sq' Sq
                go_quiet ((go_at_call 28; exact Calls.quiet_of (SQ.out _)))
                go_wp2_with fail
                go_meet
                case rel => exact ⟨by simp, _, rfl⟩
            case rest =>
              obtain ⟨rfl, z2, rfl⟩ := hcut
              have b7 : Below w.heap.size w (w6.drewN z2) := below_drewN b6 z2
              clear b6 c6 d6 X6 Y6 S6 T6 Hap2 Sq
              have hu0 : 0 ≤ IntKind.u64.wrap cut := by rw [IntKind.wrap_u64]; omega
              obtain ⟨u, hu⟩ : ∃ u : Nat, IntKind.u64.wrap cut = (u : Int) := ⟨(IntKind.u64.wrap cut).toNat, by omega⟩
              have hla : 0 < (num a).length := by simp [num]
              have hlx : 0 < (rowB x).length := by simp [rowB, num]
              obtain ⟨f, hf, hf1⟩ : ∃ f : Nat, (u : Int) % ((num a).length : Int) = (f : Int) ∧ f < (num a).length := ⟨u % (num a).length, (Int.natCast_emod _ _).symm, Nat.mod_lt _ hla⟩
              obtain ⟨g, hg, hg1⟩ : ∃ g : Nat, (u : Int) % ((rowB x).length : Int) = (g : Int) ∧ g < (rowB x).length := ⟨u % (rowB x).length, (Int.natCast_emod _ _).symm, Nat.mod_lt _ hlx⟩
              have hna : num a ≠ [] := by intro h; rw [h] at hla; simp at hla
              have hnr : rowB x ≠ [] := by intro h; rw [h] at hlx; simp at hlx
              have hf2 : (f : Int) ≤ ((num a).length : Int) := by omega
              have hg2 : (g : Int) ≤ ((rowB x).length : Int) := by omega
              have hf0 : (0 : Int) ≤ (f : Int) := by omega
              have hg0 : (0 : Int) ≤ (g : Int) := by omega
              have Rn := Lib.hid (num_cut ha.1 ha.2 hf1)
              have Rr := Lib.hid (row_cut (most := 40) (by rw [← Hn.out]; omega) He.out (by omega) hg1)
              clear hu0
              go_wp2_with fail
              refine (readNum_none Rn.out _ (by simp; omega)).mono ?_
              rintro e w8 ⟨rfl, hB8⟩
              have b8 := b7.trans (hB8.mono b7.size)
              clear b7 hB8
              go_wp2_with fail
              refine (readRow_none Rr.out (.inl (by omega)) _ (by simp; omega)).mono ?_
              rintro e w9 ⟨rfl, hB9⟩
              have b9 := b8.trans (hB9.mono b8.size)
              clear b8 hB9
              go_wp2
              go_ret
              exact ⟨by first | (simp; done) | (simp; omega), b9⟩
end Go.Proofs.Ytecofehfheodhaa
