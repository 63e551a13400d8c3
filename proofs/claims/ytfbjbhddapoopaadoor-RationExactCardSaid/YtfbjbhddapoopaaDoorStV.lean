/-
  Layer 2's reference: the walk of Of.
-/
import Derived.Test.YtfbjbhddapoopaaDoorStU2
import Derived.Test.YtfbjbhddapoopaaDoorCoB
set_option linter.unusedVariables false
set_option linter.unusedSimpArgs false
namespace Go.Proofs.YtfbjbhddapoopaaDoor
open Go.RowKit
attribute [local go_sem] Lb.ba_get Lb.ba_cut Lb.ba_add Lb.ba_size Lb.take_rest

theorem rowB_one (l : List Int) : (rowB l).all (·.oneCell') = true := by
  rw [Array.all_eq_true_iff_forall_mem]
  intro v hv
  simp only [rowB, List.mem_toArray, List.mem_map] at hv
  obtain ⟨x, _, rfl⟩ := hv
  rfl
theorem of_whole (K : List Int) (t S : List UInt8) (N : Nat) (hS : S = (t ++ 128 :: List.replicate (zN (t.length % 64)) 0) ++ lensL t.length 8) (hN : S.length = 64 * N) : digL (eatN K N begunS S).1 32 = hashL K t := by
  have h := eat_whole K t
  have hl := congrArg List.length (pad_whole t)
  rw [← hS, List.length_append, List.length_take] at hl
  rw [pad_whole, ← hS] at h
  have hn : t.length / 64 + (padB (t.drop (64 * (t.length / 64))) t.length).length / 64 = N := by omega
  rw [hn] at h
  unfold hashL
  rw [h]

set_option maxHeartbeats 6000000 in
set_option maxRecDepth 100000 in
theorem rof_any (t : List UInt8) (w : World) (ht : t.length ≤ 1000000) :
    Calls Tryd.prog 108 #[.string ⟨t.toArray⟩] w fun e w' => e = .returned (.agg (digV (hashB KK t))) ∧ Below w.heap.size w w' := by
  obtain ⟨i0, hi0, hz0, hz1, hz2⟩ := info_parts byteI
  have hti : (t.length : Int) ≤ 1000000 := by omega
  obtain ⟨K0, hK0⟩ : ∃ K0, K0 = KK := ⟨_, rfl⟩
  rw [← hK0]
  have hcon : ∀ w : World, Calls Tryd.prog 129 #[] w fun e w' => e = .returned (.agg (rowW K0)) ∧ Below w.heap.size w w' := fun w => by rw [hK0]; exact consts_any w
  have hK64 : K0.length = 64 := by rw [hK0]; exact KK_length
  have HCON := Lib.hid hcon
  have HK64 := Lib.hid hK64
  obtain ⟨R0, hR0⟩ : ∃ R0, R0 = digV (hashB K0 t) := ⟨_, rfl⟩
  rw [← hR0]
  have HR0 := Lib.hid hR0
  clear hK0 hcon hK64 hR0
  go_enter Tryd.func108, Tryd.ntmps108
  go_upto_region 1 with fail
  show Code.wp _ _ _ _ (w.alloc (.cells (rowB (List.replicate 32 0)) 23))
  obtain ⟨q, hq⟩ : ∃ q, q = w.heap.size := ⟨_, rfl⟩
  have h0 : (w.alloc (.cells (rowB (List.replicate 32 0)) 23)).heap[q]? = some (.cells (rowB (List.replicate 32 0)) 23 (0, 0)) := by rw [hq]; exact heap_alloc_new w _
  have o0 : Only [] w (w.alloc (.cells (rowB (List.replicate 32 0)) 23)) := (Only.refl [] w).alloc _
  obtain ⟨w1, hw1⟩ : ∃ w1, w1 = w.alloc (.cells (rowB (List.replicate 32 0)) 23) := ⟨_, rfl⟩
  rw [← hw1] at h0 o0 ⊢
  rw [← hq]
  have H0 := Lib.hid h0
  have HO := Lib.hid o0
  have Hq := Lib.hid hq
  clear hw1 h0 o0 hq
  go_wp2_with fail
  go_loopw [0] (fun s wr => ∃ k : Nat, k ≤ zN (t.length % 64) ∧ s = .string ⟨(t ++ 128 :: List.replicate k 0).toArray⟩ ∧ wr = w1) (fun s _ => match s with | .string x => 2000000 - x.size | _ => 0)
  case atStart => exact ⟨0, by omega, by simp, rfl⟩
  case round =>
    obtain ⟨k, hk, rfl, hwr⟩ := hrel
    have hwr' : w1 = wr := hwr.symm
    subst hwr'
    obtain ⟨s, hs⟩ : ∃ s, s = t ++ 128 :: List.replicate k 0 := ⟨_, rfl⟩
    have hz := zN_le (t.length % 64)
    have hsl : s.length = t.length + 1 + k := by rw [hs]; simp; omega
    have hs0 : s ++ [0] = t ++ 128 :: List.replicate (k + 1) 0 := by rw [hs, List.replicate_succ']; simp
    rw [← hs]
    obtain ⟨L, hL⟩ : ∃ L, L = s.length := ⟨_, rfl⟩
    have hLi : (s.length : Int) ≤ 1000064 := by omega
    obtain ⟨m, hm⟩ : ∃ m, m = s.length % 64 := ⟨_, rfl⟩
    have tm : (s.length : Int).tmod 64 = (m : Int) := by rw [hm]; rfl
    by_cases hkz : k < zN (t.length % 64)
    · have hne := zN_less (t.length % 64) k (by omega) hkz
      have hmne : ((m : Int) != 56) = true := by rw [bne_iff_ne]; omega
      have Hs0 := Lib.hid hs0
      have Hsl := Lib.hid hsl
      clear hs hs0 hm hsl hL hk
      go_wp2_with fail
      go_roundw
      case rel => exact ⟨k + 1, by omega, by rw [← Hs0.out], by first | rfl | trivial⟩
      case measure => show 2000000 - (ByteArray.mk _).size < 2000000 - (ByteArray.mk _).size; simp only [Lb.ba_size, List.length_append, List.length_cons, List.length_nil]; omega
    · have hkz' : k = zN (t.length % 64) := by omega
      have hmm := zN_mod (t.length % 64) (by omega)
      have hm56 : (m : Int) = 56 := by omega
      have Hs := Lib.hid hs
      have Hsl := Lib.hid hsl
      clear hs hs0 hm hsl hL hk
      go_wp2_with fail
      have hbag : Bag (w1.alloc (.cells #[] 5)) 1 w1.heap.size 0 0 (byV (lensL t.length 0)) := ⟨Nat.le_refl _, by unfold maxLen; omega, by simp, rfl, fun j u hu => by simp [lensL, byV] at hu, fun j hj => by omega⟩
      have hob : Only [] w1 (w1.alloc (.cells #[] 5)) := (Only.refl [] w1).alloc _
      have HBag := Lib.hid hbag
      have HOb := Lib.hid hob
      clear hbag hob tm hm56 hmm hkz
      go_loopw [4, 5] (fun v c wx => ∃ (j g cap : Nat), j ≤ 8 ∧ c = .int .i64 (7 - (j : Int)) ∧ v = .slice (some ⟨g, 0, none⟩) j cap ∧ Bag wx 1 g cap j (byV (lensL t.length j)) ∧ w1.heap.size ≤ g ∧ Only [] w1 wx) (fun _ c _ => (intOf c + 1).toNat)
      case atStart => exact ⟨0, w1.heap.size, 0, by omega, rfl, rfl, HBag.out, Nat.le_refl _, HOb.out⟩
      case round =>
        clear HBag HOb
        obtain ⟨j, g, cap, hj, rfl, rfl, hB, hg, ho⟩ := hrel
        by_cases hj8 : j < 8
        · obtain ⟨i, hi⟩ : ∃ i, i = 7 - j := ⟨_, rfl⟩
          have ei : (7 : Int) - (j : Int) = (i : Int) := by omega
          have i0' : (0 : Int) ≤ (i : Int) := by omega
          have i7 : (i : Int) ≤ 7 := by omega
          have n0 : (0 : Int) ≤ (t.length : Int) := by omega
          rw [ei]
          have hsrc : ∀ x : Int, x = (8 * (t.length : Int)) / 2 ^ (8 * i) % 256 → ∀ W : World, Src Tryd.prog 1 186 (.slice (some ⟨W.heap.size, 0, none⟩) 1 1) 1 (byV [lenB t.length j]) (W.alloc (.cells #[.int .u8 x] 5)) := fun x hx W =>
            byte_src _ 1 1 (lenB t.length j) x (by rw [hx, hi, Int.mul_comm]; unfold lenB; rw [UInt8.toNat_ofNat']; simp) rfl (by rw [Lib.cell_of_heap (heap_alloc_new W _)]; rfl)
          have hsrc1 := hsrc _ rfl wr
          have hb2 : Bag (wr.alloc (.cells #[.int .u8 ((8 * (t.length : Int)) / 2 ^ (8 * i) % 256)] 5)) 1 g cap j (byV (lensL t.length j)) := hB.alloc _
          have Ho := Lib.hid ho
          clear hB ho hsrc hi
          go_wp2_with (at_builtin; refine wpList_append_bag _ rfl _ _ 186 186 rfl i0 (.int .u8 0) 1 Tryd.underlying186 hi0 hz0 hz1 hz2 rfl rfl hb2 _ 1 (byV [lenB t.length j]) rfl hsrc1 (by unfold maxLen; omega) (by omega) ?_)
          intro g2 cap2 w3 hb3 ho3 hor
          have hB3 : Bag w3 1 g2 cap2 (j + 1) (byV (lensL t.length (j + 1))) := by rw [lensL_succ, byV_append]; exact hb3
          have hO3 := (Ho.out.alloc (.cells #[.int .u8 ((8 * (t.length : Int)) / 2 ^ (8 * i) % 256)] 5)).above ho3 (by simp; omega)
          have hg2 : w1.heap.size ≤ g2 := by
            rcases hor with h | h
            · rw [h]; exact hg
            · have := Ho.out.size
              try simp at h
              omega
          have HB3 := Lib.hid hB3
          have HO3 := Lib.hid hO3
          clear hB3 hO3 hb3 ho3 hor hb2 hsrc1 Ho
          go_wp2_with fail
          go_roundw
          case rel => exact ⟨j + 1, g2, cap2, by omega, by rw [show (7 : Int) - ((j + 1 : Nat) : Int) = (i : Int) - 1 by omega], rfl, HB3.out, hg2, HO3.out⟩
          case measure => first | (simp [intOf]; done) | (simp [intOf]; omega)
        · have hj8' : j = 8 := by omega
          subst hj8'
          have hll : (lensL t.length 8).length = 8 := lensL_length _ _
          have hconv : (convert 186 9 (.slice (some ⟨g, 0, none⟩) 8 cap)).run Tryd.prog wr = .ok (.string ⟨(lensL t.length 8).toArray⟩) wr := by
            have h := run_convert_bytes_back wr 186 9 5 ⟨g, 0, none⟩ cap (lensL t.length 8) Tryd.underlying186 Tryd.underlying5 Tryd.underlying9 (fun k hk => by
              rw [Addr.add_lit, Nat.zero_add]
              exact hB.holds k _ (by rw [byV, List.getElem?_map, List.getElem?_eq_getElem hk]; rfl))
            rw [hll] at h
            exact h
          obtain ⟨lb, hlb⟩ : ∃ lb, lb = lensL t.length 8 := ⟨_, rfl⟩
          rw [← hlb] at hconv hll
          have hlbi : (lb.length : Int) ≤ 8 := by omega
          have Hlb := Lib.hid hlb
          have HoB := Lib.hid ho
          rw [show (7 : Int) - ((8 : Nat) : Int) = -1 by omega]
          clear hB ho hlb hll hj8
          go_upto_region 11 with fail
          obtain ⟨S, hS⟩ : ∃ S, S = s ++ lb := ⟨_, rfl⟩
          rw [← hS]
          have HS := Lib.hid hS
          obtain ⟨C8, hC8⟩ : ∃ C8, C8 = rowW begunS := ⟨_, rfl⟩
          have h8s : C8.size = 8 := by rw [hC8]; rfl
          have h81 : C8.all (·.oneCell') = true := by rw [hC8]; exact rowW_one _
          have HC8 := Lib.hid hC8
          clear hS hC8 hconv
          go_upto_region 12 with (first
            | (refine wpList_build rfl 180 _ rfl (by kernel_rfl) ?_; rw [show (Option.getD (Program.built _ _ _) _) = rowW begunS from (by kernel_rfl), ← HC8.out])
            | (refine wpList_store_row rfl 180 _ _ rfl wr.heap.size C8 rfl rfl 180 _ (heap_alloc_new wr _) (by rw [h8s]; kernel_rfl) (by rw [h8s]; rfl) h81 ?_))
          show Code.wp _ _ _ _ ((wr.alloc (.cells (rowW (List.replicate 8 0)) 180)).setRow wr.heap.size C8)
          obtain ⟨ph, hph⟩ : ∃ p, p = wr.heap.size := ⟨_, rfl⟩
          have h3 : ((wr.alloc (.cells (rowW (List.replicate 8 0)) 180)).setRow wr.heap.size C8).heap[ph]? = some (.cells C8 180 (0, 0)) := by rw [hph]; exact setRow_heap _ _ _ _ _ _ (heap_alloc_new wr _)
          have o3 : Only [ph] wr ((wr.alloc (.cells (rowW (List.replicate 8 0)) 180)).setRow wr.heap.size C8) := ((Only.refl [ph] wr).alloc _).setRow (by simp [hph]) C8
          obtain ⟨w3, hw3⟩ : ∃ w3, w3 = (wr.alloc (.cells (rowW (List.replicate 8 0)) 180)).setRow wr.heap.size C8 := ⟨_, rfl⟩
          rw [← hw3] at h3 o3 ⊢
          rw [← hph]
          have H3 := Lib.hid h3
          have b3 : Below wr.heap.size wr w3 := o3.below (Nat.le_refl _) (by simp [hph])
          have HB3 := Lib.hid (Only.of_below (bs := []) b3)
          have Hph := Lib.hid hph
          clear hw3 h3 o3 b3 hph
          go_wp2_with fail
          refine (HCON.out w3).mono ?_
          rintro e w4 ⟨rfl, hB4⟩
          obtain ⟨CK, hCK⟩ : ∃ CK, CK = rowW K0 := ⟨_, rfl⟩
          rw [← hCK]
          have hKs : CK.size = 64 := by rw [hCK]; simp [rowW, HK64.out]
          have hK1 : CK.all (·.oneCell') = true := by rw [hCK]; exact rowW_one _
          have HCK := Lib.hid hCK
          have H4 := Lib.hid (below_keep hB4 H3.out)
          have HB4 := Lib.hid (HB3.out.trans (Only.of_below hB4))
          clear hCK hB4 H3 HB3
          go_upto_region 13 with (refine wpList_store_row rfl 204 _ _ rfl w4.heap.size CK rfl rfl 204 _ (heap_alloc_new w4 _) (by rw [hKs]; kernel_rfl) (by rw [hKs]; rfl) hK1 ?_)
          show Code.wp _ _ _ _ ((w4.alloc (.cells (rowW (List.replicate 64 0)) 204)).setRow w4.heap.size CK)
          obtain ⟨pk, hpk⟩ : ∃ p, p = w4.heap.size := ⟨_, rfl⟩
          have h5 : ((w4.alloc (.cells (rowW (List.replicate 64 0)) 204)).setRow w4.heap.size CK).heap[pk]? = some (.cells CK 204 (0, 0)) := by rw [hpk]; exact setRow_heap _ _ _ _ _ _ (heap_alloc_new w4 _)
          have o5 : Only [pk] w4 ((w4.alloc (.cells (rowW (List.replicate 64 0)) 204)).setRow w4.heap.size CK) := ((Only.refl [pk] w4).alloc _).setRow (by simp [hpk]) CK
          obtain ⟨w5, hw5⟩ : ∃ w5, w5 = (w4.alloc (.cells (rowW (List.replicate 64 0)) 204)).setRow w4.heap.size CK := ⟨_, rfl⟩
          rw [← hw5] at h5 o5 ⊢
          rw [← hpk]
          have b5 : Below w4.heap.size w4 w5 := o5.below (Nat.le_refl _) (by simp [hpk])
          have H5 := Lib.hid h5
          have H5h := Lib.hid (below_keep b5 H4.out)
          have HB5 := Lib.hid (HB4.out.trans (Only.of_below b5))
          have hp45 : ph < pk := by have := heap_lt H4.out; omega
          have Hpk := Lib.hid hpk
          clear hw5 h5 o5 b5 hpk H4 HB4
          have HSl : Hid (S.length = 64 * (S.length / 64) ∧ S.length ≤ 1000200) := Lib.hid (by
            have h1 : S.length = s.length + 8 := by rw [HS.out, List.length_append, Hlb.out, lensL_length]
            have h2 := zN_mod (t.length % 64) (by omega)
            have h3 := Hsl.out
            omega)
          obtain ⟨hS64, hSle⟩ := HSl.out
          obtain ⟨N, hN⟩ : ∃ N, N = S.length / 64 := ⟨_, rfl⟩
          have hSN : S.length = 64 * N := by omega
          clear hS64 hN
          go_wp2_with fail
          go_loopw [8] (fun c wr => ∃ j : Nat, j ≤ N ∧ c = .int .i64 ((64 * j : Nat) : Int) ∧ wr.heap[ph]? = some (.cells (rowW (eatN K0 j begunS S).1) 180 (0, 0)) ∧ Only [ph] w5 wr) (fun c _ => 2000000 - (intOf c).toNat)
          case atStart => exact ⟨0, by omega, rfl, by rw [show (eatN K0 0 begunS S).1 = begunS from rfl, ← HC8.out]; exact H5h.out, Only.refl _ _⟩
          case round =>
            obtain ⟨j, hj, rfl, hP, ho⟩ := hrel
            by_cases hjN : j < N
            · have hVl := eatN_length K0 begunS S rfl j
              have hVr := eatN_range K0 begunS S begunS_range j
              have hsucc := eatN_succ K0 j begunS S
              have hrest := eatN_rest K0 j begunS S
              rw [hrest] at hsucc
              obtain ⟨V, hV⟩ : ∃ V, V = (eatN K0 j begunS S).1 := ⟨_, rfl⟩
              rw [← hV] at hVl hVr hsucc hP
              obtain ⟨bl, hbl⟩ : ∃ bl, bl = (S.drop (64 * j)).take 64 := ⟨_, rfl⟩
              have hbl64 : bl.length = 64 := by rw [hbl]; simp; omega
              rw [← hbl] at hsucc
              obtain ⟨CV, hCV⟩ : ∃ C, C = rowW V := ⟨_, rfl⟩
              obtain ⟨CN, hCN⟩ : ∃ C, C = rowW (mixS K0 bl V) := ⟨_, rfl⟩
              rw [← hCV] at hP
              have hinfV : (Tryd.prog.info? 180).map (·.size) = some CV.size := by rw [hCV]; simp only [rowW, List.size_toArray, List.length_map, hVl]; kernel_rfl
              have hinfN : (Tryd.prog.info? 180).map (·.size) = some CN.size := by rw [hCN]; simp only [rowW, List.size_toArray, List.length_map, mixS_length]; kernel_rfl
              have hszN : CV.size = CN.size := by rw [hCV, hCN]; simp [rowW, mixS_length, hVl]
              have honeN : CN.all (·.oneCell') = true := by rw [hCN]; exact rowW_one _
              have hinfK : (Tryd.prog.info? 204).map (·.size) = some CK.size := by rw [hKs]; kernel_rfl
              have HBk := Lib.hid (fun w => block_list V hVl K0 bl w HK64.out hbl64 hVr)
              rw [← hCV, ← HCK.out, ← hCN] at HBk
              have HCN : Hid (CN = rowW (eatN K0 (j + 1) begunS S).1) := Lib.hid (by rw [hCN, hsucc])
              have HPh := Lib.hid hP
              have HPk : Hid (wr.heap[pk]? = some (.cells CK 204 (0, 0))) := Lib.hid (ho.keep H5.out (by simp; omega))
              have Ho := Lib.hid ho
              obtain ⟨i, hi⟩ : ∃ i, i = 64 * j := ⟨_, rfl⟩
              obtain ⟨c, hc⟩ : ∃ c, c = 64 * (j + 1) := ⟨_, rfl⟩
              have hcw : IntKind.i64.wrap ((i : Int) + 64) = (c : Int) := by rw [IntWalk.i64_in _ (by omega)]; omega
              have hcS : (c : Int) ≤ (S.length : Int) := by omega
              have hic : (i : Int) ≤ (c : Int) := by omega
              have hSi : (S.length : Int) ≤ 1000200 := by omega
              have hiS : i < S.length := by omega
              have ip : (0 : Int) ≤ (i : Int) := by omega
              have cp : (0 : Int) ≤ (c : Int) := by omega
              have he64 : (i : Int) + 64 = (c : Int) := by omega
              have He64 := Lib.hid (show (c : Int) = ((64 * (j + 1) : Nat) : Int) by omega)
              have hcut : (S.drop i).take (c - i) = bl := by rw [hbl, hi, hc]; congr 1; omega
              have HSN := Lib.hid hSN
              have hjN2 : j + 1 ≤ N := by omega
              have hmeas : (c : Int) ≤ 1000200 ∧ (i : Int) < (c : Int) := by omega
              rw [← hi]
              clear hSN hc he64
              clear hP ho hV hsucc hrest hVl hVr hbl hCV hCN hi hj
              go_upto_region 16 with fail
              refine wp_region_any (by kernel_rfl) ?_
              try change wpAny _ _ _ _ _ _ _ (World.drew _)
              try simp only [Act.put, List.getElem_toArray, List.getElem_cons_zero, List.getElem_cons_succ, List.setIfInBounds_toArray, List.set_cons_zero, List.set_cons_succ]
              refine wpAny_take (i := 2) (v := ?_) rfl (by kernel_rfl) (by kernel_rfl) (by kernel_rfl) (fun _ _ _ h => h) (Or.inl ⟨by rfl, ?_⟩) ?_
              rotate_left 1
              · intro w
                go_simp
                try with_reducible rfl
              try simp only [Act.put, List.getElem_toArray, List.getElem_cons_zero, List.getElem_cons_succ, List.setIfInBounds_toArray, List.set_cons_zero, List.set_cons_succ]
              refine wpAny_take (i := 3) (v := ?_) rfl (by kernel_rfl) (by kernel_rfl) (by kernel_rfl) (fun _ _ _ h => h) (Or.inl ⟨by rfl, ?_⟩) ?_
              rotate_left 1
              · intro w
                go_simp
                try with_reducible rfl
              try simp only [Act.put, List.getElem_toArray, List.getElem_cons_zero, List.getElem_cons_succ, List.setIfInBounds_toArray, List.set_cons_zero, List.set_cons_succ]
              refine wpAny_take (i := 4) (v := ?_) rfl (by kernel_rfl) (by kernel_rfl) (by kernel_rfl) (fun _ _ _ h => h) (Or.inl ⟨by rfl, ?_⟩) ?_
              rotate_left 1
              · intro w
                go_simp
                try with_reducible rfl
              try simp only [Act.put, List.getElem_toArray, List.getElem_cons_zero, List.getElem_cons_succ, List.setIfInBounds_toArray, List.set_cons_zero, List.set_cons_succ]
              refine wpAny_take (i := 5) (v := ?_) rfl (by kernel_rfl) (by kernel_rfl) (by kernel_rfl) (fun _ _ _ h => h) (Or.inl ⟨by rfl, ?_⟩) ?_
              rotate_left 1
              · intro w
                go_simp
                try with_reducible rfl
              try simp only [Act.put, List.getElem_toArray, List.getElem_cons_zero, List.getElem_cons_succ, List.setIfInBounds_toArray, List.set_cons_zero, List.set_cons_succ]
              refine wpAny_take (i := 6) (v := ?_) rfl (by kernel_rfl) (by kernel_rfl) (by kernel_rfl) (fun _ _ _ h => h) (Or.inl ⟨by rfl, ?_⟩) ?_
              rotate_left 1
              · intro w
                go_simp
                try with_reducible rfl
              try simp only [Act.put, List.getElem_toArray, List.getElem_cons_zero, List.getElem_cons_succ, List.setIfInBounds_toArray, List.set_cons_zero, List.set_cons_succ]
              refine wpAny_ready (rs := [0, 1]) (by kernel_rfl) (by simp) ?_
              refine AllReady.cons rfl (fun K hK => ?_) ?_
              · rw [if_pos (by rfl)]
                refine wp_load_row 180 _ rfl ph rfl 180 _ (0, 0) _ HPh.out Tryd.underlying180 rfl hinfV ?_
                refine hK _ _ ?_
                clear hK K
                try simp only [Act.put, List.getElem_toArray, List.getElem_cons_zero, List.getElem_cons_succ, List.setIfInBounds_toArray, List.set_cons_zero, List.set_cons_succ]
                refine wpAny_ready (rs := [1]) (by kernel_rfl) (by simp) ?_
                refine AllReady.cons rfl (fun K hK => ?_) ?_
                · rw [if_pos (by rfl)]
                  refine wp_load_row 204 _ rfl pk rfl 204 _ (0, 0) _ HPk.out Tryd.underlying204 rfl hinfK ?_
                  refine hK _ _ ?_
                  clear hK K
                  try simp only [Act.put, List.getElem_toArray, List.getElem_cons_zero, List.getElem_cons_succ, List.setIfInBounds_toArray, List.set_cons_zero, List.set_cons_succ]
                  refine wpAny_ready (rs := [7]) (by kernel_rfl) (by simp) ?_
                  refine AllReady.cons rfl (fun K hK => ?_) ?_
                  · go_simp
                    refine (HBk.out _).mono ?_
                    rintro e w' ⟨rfl, hBw⟩
                    have hPw := below_keep hBw HPh.out
                    go_wp2_with fail
                    try simp only [Act.put, List.getElem_toArray, List.getElem_cons_zero, List.getElem_cons_succ, List.setIfInBounds_toArray, List.set_cons_zero, List.set_cons_succ]
                    refine wpAny_ready (rs := [8]) (by kernel_rfl) (by simp) ?_
                    refine AllReady.cons rfl (fun K hK => ?_) ?_
                    · rw [if_pos (by rfl)]
                      refine wp_store_row 180 _ _ rfl ph CN rfl rfl 180 _ hPw hinfN hszN honeN ?_
                      refine hK _ _ ?_
                      clear hK K
                      try simp only [Act.put, List.getElem_toArray, List.getElem_cons_zero, List.getElem_cons_succ, List.setIfInBounds_toArray, List.set_cons_zero, List.set_cons_succ]
                      refine wpAny_done (by kernel_rfl) ?_ _
                      have HW2 : Hid ((w'.setRow ph CN).heap[ph]? = some (.cells CN 180 (0, 0))) := Lib.hid (setRow_heap _ _ _ _ _ _ hPw)
                      have HO2 : Hid (Only [ph] w5 (w'.setRow ph CN)) := Lib.hid (((Ho.out.drew).trans (Only.of_below hBw)).setRow (by simp) CN)
                      clear hPw hBw
                      go_wp2_with fail
                      go_roundw
                      case rel => exact ⟨j + 1, hjN2, by rw [← He64.out]; try rfl, by rw [← HCN.out]; exact HW2.out, HO2.out⟩
                      case measure => simp [intOf]; omega
                    exact AllReady.nil
                  exact AllReady.nil
                exact AllReady.nil
              refine AllReady.cons rfl (fun K hK => ?_) ?_
              · rw [if_pos (by rfl)]
                refine wp_load_row 204 _ rfl pk rfl 204 _ (0, 0) _ HPk.out Tryd.underlying204 rfl hinfK ?_
                refine hK _ _ ?_
                clear hK K
                try simp only [Act.put, List.getElem_toArray, List.getElem_cons_zero, List.getElem_cons_succ, List.setIfInBounds_toArray, List.set_cons_zero, List.set_cons_succ]
                refine wpAny_ready (rs := [0]) (by kernel_rfl) (by simp) ?_
                refine AllReady.cons rfl (fun K hK => ?_) ?_
                · rw [if_pos (by rfl)]
                  refine wp_load_row 180 _ rfl ph rfl 180 _ (0, 0) _ HPh.out Tryd.underlying180 rfl hinfV ?_
                  refine hK _ _ ?_
                  clear hK K
                  try simp only [Act.put, List.getElem_toArray, List.getElem_cons_zero, List.getElem_cons_succ, List.setIfInBounds_toArray, List.set_cons_zero, List.set_cons_succ]
                  refine wpAny_ready (rs := [7]) (by kernel_rfl) (by simp) ?_
                  refine AllReady.cons rfl (fun K hK => ?_) ?_
                  · go_simp
                    refine (HBk.out _).mono ?_
                    rintro e w' ⟨rfl, hBw⟩
                    have hPw := below_keep hBw HPh.out
                    go_wp2_with fail
                    try simp only [Act.put, List.getElem_toArray, List.getElem_cons_zero, List.getElem_cons_succ, List.setIfInBounds_toArray, List.set_cons_zero, List.set_cons_succ]
                    refine wpAny_ready (rs := [8]) (by kernel_rfl) (by simp) ?_
                    refine AllReady.cons rfl (fun K hK => ?_) ?_
                    · rw [if_pos (by rfl)]
                      refine wp_store_row 180 _ _ rfl ph CN rfl rfl 180 _ hPw hinfN hszN honeN ?_
                      refine hK _ _ ?_
                      clear hK K
                      try simp only [Act.put, List.getElem_toArray, List.getElem_cons_zero, List.getElem_cons_succ, List.setIfInBounds_toArray, List.set_cons_zero, List.set_cons_succ]
                      refine wpAny_done (by kernel_rfl) ?_ _
                      have HW2 : Hid ((w'.setRow ph CN).heap[ph]? = some (.cells CN 180 (0, 0))) := Lib.hid (setRow_heap _ _ _ _ _ _ hPw)
                      have HO2 : Hid (Only [ph] w5 (w'.setRow ph CN)) := Lib.hid (((Ho.out.drew).trans (Only.of_below hBw)).setRow (by simp) CN)
                      clear hPw hBw
                      go_wp2_with fail
                      go_roundw
                      case rel => exact ⟨j + 1, hjN2, by rw [← He64.out]; try rfl, by rw [← HCN.out]; exact HW2.out, HO2.out⟩
                      case measure => simp [intOf]; omega
                    exact AllReady.nil
                  exact AllReady.nil
                exact AllReady.nil
              exact AllReady.nil
            · have hjN' : j = N := by omega
              subst hjN'
              have hfin := of_whole K0 t S j (by rw [HS.out, Hs.out, Hlb.out, hkz']) hSN
              have hVl := eatN_length K0 begunS S rfl j
              obtain ⟨V, hV⟩ : ∃ V, V = (eatN K0 j begunS S).1 := ⟨_, rfl⟩
              rw [← hV] at hfin hVl hP
              obtain ⟨i, hi⟩ : ∃ i, i = 64 * j := ⟨_, rfl⟩
              have hiS : ¬ i < S.length := by omega
              have hSi : (S.length : Int) ≤ 1000200 := by omega
              have ip : (0 : Int) ≤ (i : Int) := by omega
              rw [← hi]
              have HP6 := Lib.hid hP
              have HO6 := Lib.hid ho
              have Hfin := Lib.hid hfin
              have HVl := Lib.hid hVl
              clear hi hP ho hfin hVl hV hSN hj hjN
              obtain ⟨Z, hZ⟩ : ∃ Z, Z = rowB (List.replicate 32 0) := ⟨_, rfl⟩
              have hZs : Z.size = 32 := by rw [hZ]; rfl
              have hZ1 : Z.all (·.oneCell') = true := by rw [hZ]; exact rowB_one _
              have HZ := Lib.hid hZ
              clear hZ
              go_upto_region 18 with (first
                | (refine wpList_build rfl 23 _ rfl (by kernel_rfl) ?_; rw [show (Option.getD (Program.built _ _ _) _) = rowB (List.replicate 32 0) from (by kernel_rfl), ← HZ.out])
                | (refine wpList_store_row rfl 23 _ _ rfl wr.heap.size Z rfl rfl 23 _ (heap_alloc_new wr _) (by rw [hZs]; kernel_rfl) (by rw [hZs]; rfl) hZ1 ?_))
              show Code.wp _ _ _ _ ((wr.alloc (.cells (rowB (List.replicate 32 0)) 23)).setRow wr.heap.size Z)
              obtain ⟨pd, hpd⟩ : ∃ p, p = wr.heap.size := ⟨_, rfl⟩
              have h7 : ((wr.alloc (.cells (rowB (List.replicate 32 0)) 23)).setRow wr.heap.size Z).heap[pd]? = some (.cells (rowB (digL V 0)) 23 (0, 0)) := by
                rw [hpd, show rowB (digL V 0) = Z from HZ.out.symm]; exact setRow_heap _ _ _ _ _ _ (heap_alloc_new wr _)
              have b7 : Below wr.heap.size wr ((wr.alloc (.cells (rowB (List.replicate 32 0)) 23)).setRow wr.heap.size Z) :=
                (((Only.refl [wr.heap.size] wr).alloc _).setRow (by simp) Z).below (Nat.le_refl _) (by simp)
              obtain ⟨w7, hw7⟩ : ∃ w7, w7 = (wr.alloc (.cells (rowB (List.replicate 32 0)) 23)).setRow wr.heap.size Z := ⟨_, rfl⟩
              rw [← hw7] at h7 b7 ⊢
              rw [← hpd]
              have hpp : ph < pd := by rw [hpd]; exact heap_lt HP6.out
              have H7 := Lib.hid h7
              have HP7 := Lib.hid (below_keep b7 HP6.out)
              have HO7 := Lib.hid (HO6.out.trans (Only.of_below b7))
              have hpw : w5.heap.size ≤ pd := by have := HO6.out.size; omega
              clear hw7 h7 b7 hpd HP6 HO6
              go_wp2_with fail
              go_loopw [10] (fun p wr => ∃ i : Nat, i ≤ 32 ∧ p = .int .i64 i ∧ wr.heap[pd]? = some (.cells (rowB (digL V i)) 23 (0, 0)) ∧ Only [pd] w7 wr) (fun p _ => 32 - (intOf p).toNat)
              case atStart => exact ⟨0, by omega, rfl, H7.out, Only.refl _ _⟩
              case round =>
                clear H7
                obtain ⟨i', hi, rfl, hW, ho⟩ := hrel
                by_cases hi32 : i' < 32
                · have hS2 := ho.keep HP7.out (by simp; omega)
                  have hj : i' / 4 < V.length := by rw [HVl.out]; omega
                  obtain ⟨x, hx⟩ : ∃ x, x = V.getD (i' / 4) 0 := ⟨_, rfl⟩
                  have hxe : V[i' / 4]? = some x := by rw [hx, List.getD_eq_getElem?_getD, List.getElem?_eq_getElem hj]; rfl
                  obtain ⟨j', hjd⟩ : ∃ j, j = i' / 4 := ⟨_, rfl⟩
                  have a1 : wr.cell? ⟨ph, j', none⟩ = some (.int .u32 x) := by
                    rw [hjd, Lib.cell_of_heap hS2]
                    exact rowW_get hxe
                  have a2 : wr.cell? ⟨pd, i', none⟩ = some (.int .u8 0) := by
                    rw [Lib.cell_of_heap hW]; simp [rowB, digL_at V i' hi32]
                  have z2 : wr.frozen? ⟨pd, i', none⟩ = false := Lib.frozen_of_heap hW _
                  obtain ⟨m', hm⟩ : ∃ m, m = i' % 4 := ⟨_, rfl⟩
                  obtain ⟨s', hs⟩ : ∃ s, s = 24 - m' * 8 := ⟨_, rfl⟩
                  have td : (i' : Int).tdiv 4 = (j' : Int) := by rw [hjd]; rfl
                  have tm : (i' : Int).tmod 4 = (m' : Int) := by rw [hm]; rfl
                  have ts : (24 : Int) - 8 * (m' : Int) = (s' : Int) := by omega
                  have i0 : (0 : Int) ≤ (i' : Int) := by omega
                  have i1 : (i' : Int) < 32 := by omega
                  have j0 : (0 : Int) ≤ (j' : Int) := by omega
                  have j1 : (j' : Int) < 8 := by omega
                  have m1 : (m' : Int) < 4 := by omega
                  have s1 : (s' : Int) ≤ 24 := by omega
                  have hB : byteOf V i' = x / 2 ^ s' % 256 := by unfold byteOf; rw [← hx, hs, hm]
                  have hWn := heap_setCell_same _ pd i' _ _ (.int .u8 (x / 2 ^ s' % 256)) hW
                  have hWm : (rowB (digL V i')).setIfInBounds i' (.int .u8 (x / 2 ^ s' % 256)) = rowB (digL V (i' + 1)) := by
                    rw [← digL_succ V i' hi32, hB]; simp [rowB, List.map_set]
                  rw [hWm] at hWn
                  have HWn := Lib.hid hWn
                  have Ho := Lib.hid ho
                  clear hS2 hj hx hxe hjd hm hs hB hWn hWm hW ho
                  go_wp2_with fail
                  go_roundw
                  case rel => exact ⟨i' + 1, by omega, by go_num, HWn.out, Ho.out.setCell (by simp) _⟩
                  case measure => simp [intOf]; omega
                · have hi32' : i' = 32 := by omega
                  subst hi32'
                  have hsz : (rowB (digL V 32)).size = 32 := by simp [rowB, digL_length V 32 (by omega)]
                  have h1c : (rowB (digL V 32)).all (·.oneCell') = true := rowB_one _
                  obtain ⟨C, hC⟩ : ∃ C, C = rowB (digL V 32) := ⟨_, rfl⟩
                  rw [← hC] at hsz h1c hW
                  have hCR : C = R0 := by rw [hC, HR0.out, Hfin.out, rowB_hash]
                  have hinf : (Tryd.prog.info? 23).map (·.size) = some C.size := by rw [hsz]; kernel_rfl
                  have hqw1 := heap_lt H0.out
                  have hqk : wr.heap[q]? = some (.cells (rowB (List.replicate 32 0)) 23 (0, 0)) :=
                    ho.keep (HO7.out.keep (HB5.out.keep (HoB.out.keep H0.out (by simp)) (by simp)) (by simp; have := Hph.out; have := HoB.out.size; omega)) (by simp; have := HoB.out.size; have := HB5.out.size; omega)
                  have Hg := Lib.hid hW
                  have HC := Lib.hid hCR
                  have Hqk := Lib.hid hqk
                  have Ho := Lib.hid ho
                  clear hW hC ho hqk hCR
                  go_wp2_with (first
                    | (refine wpList_load_row rfl 23 _ rfl pd rfl 23 _ (0, 0) _ Hg.out Tryd.underlying23 rfl hinf ?_)
                    | (refine wpList_store_row rfl 23 _ _ rfl q C rfl rfl 23 _ Hqk.out hinf (by rw [hsz]; rfl) h1c ?_))
                  (try simp only [Exit.inBlock, Exit.then])
                  refine bodyPost_ret (results_cell_row rfl _ _ q 23 C (0, 0) _ rfl (setRow_heap _ _ _ _ _ _ Hqk.out) Tryd.underlying23 rfl hinf) rfl ?_
                  refine ⟨by rw [HC.out], ?_⟩
                  have o1 : Only [] w w5 := HO.out.trans (HoB.out.trans HB5.out)
                  have o2 : Only [ph] w w7 := (o1.mono (by simp)).trans HO7.out
                  have o3 : Only [ph, pd, q] w (wr.setRow q C) := ((o2.mono (by simp)).trans (Ho.out.mono (by simp))).setRow (by simp) C
                  have z0 := HO.out.size
                  have z1 := HoB.out.size
                  have z2 := HB5.out.size
                  have zq := Hq.out
                  have zp := Hph.out
                  exact o3.below (Nat.le_refl _) (by intro x hx; simp at hx; rcases hx with rfl | rfl | rfl <;> omega)
end Go.Proofs.YtfbjbhddapoopaaDoor
