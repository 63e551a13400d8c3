/-
  Layer 5's laws: has, wide, clash: what they answer of lists of texts.
-/
import Derived.Test.YteihfoacdocgkaaDoorHvOY
set_option linter.unusedVariables false
set_option linter.unusedSimpArgs false
namespace Go.Proofs.YteihfoacdocgkaaDoor
open Go.RowKit Pl Sh
attribute [local go_sem] Lb.ba_get Lb.ba_cut Lb.ba_add Lb.ba_size Lb.take_rest

theorem getD_getH {ls : List (List UInt8)} {j : Nat} (h : j < ls.length) : ls[j] = ls.getD j [] := by simp [List.getD, h]

set_option maxHeartbeats 2000000 in
theorem has_any (A : Option Addr) (cap : Nat) (ls : List (List UInt8)) (s : List UInt8) (w : World) (hS : Strs w w.heap.size A ls) (hl : ls.length ≤ maxLen) :
    Calls Tryd.prog 24 #[.slice A ls.length cap, .string ⟨s.toArray⟩] w fun e w' => e = .returned (.bool (decide (s ∈ ls))) ∧ w = w' := by
  have HS := Lib.hid hS
  obtain ⟨n, hn⟩ : ∃ n, n = ls.length := ⟨_, rfl⟩
  rw [← hn] at hl ⊢
  unfold maxLen at hl
  have n63 : (n : Int) ≤ 9223372036854775807 := by omega
  have Hn := Lib.hid hn
  clear hS hn
  obtain ⟨r, hr⟩ : ∃ r, r = decide (s ∈ ls) := ⟨_, rfl⟩
  rw [← hr]
  have Hr := Lib.hid hr
  clear hr
  go_enter Tryd.func24, Tryd.ntmps24
  go_wp2_with fail
  go_loopw [5] (fun i wr => ∃ k : Nat, k ≤ n ∧ i = .int .i64 k ∧ (∀ j, j < k → ls.getD j [] ≠ s) ∧ w = wr) (fun i _ => n - (intOf i).toNat)
  case atStart => exact ⟨0, by omega, rfl, fun j hj => by omega, by first | trivial | rfl⟩
  case round =>
    obtain ⟨k, hk, rfl, hno, rfl⟩ := hrel
    have Hno := Lib.hid hno
    clear hno
    by_cases hkn : k < n
    · have j1 : (k : Int) < (n : Int) := by omega
      have hkl : k < ls.length := by rw [← Hn.out]; exact hkn
      obtain ⟨a, rfl, -, hc⟩ := HS.out k hkl
      rw [getD_getH hkl] at hc
      obtain ⟨t, ht⟩ : ∃ t, t = ls.getD k [] := ⟨_, rfl⟩
      rw [← ht] at hc
      have Ht := Lib.hid ht
      clear ht
      by_cases hts : t = s
      · subst hts
        have hrt : r = true := by rw [Hr.out]; exact decide_eq_true (by rw [Ht.out, ← getD_getH hkl]; exact List.getElem_mem hkl)
        subst hrt
        have e1 : (t == t) = true := by simp
        go_wp2_with fail
        go_ret
        exact ⟨rfl, rfl⟩
      · have e1 : (t == s) = false := by simpa using hts
        have Hts := Lib.hid hts
        clear hts
        go_wp2_with fail
        go_roundw
        case rel => exact ⟨k + 1, by omega, by go_num, (fun j hj => by
          by_cases e : j = k
          · rw [e, ← Ht.out]; exact Hts.out
          · exact Hno.out j (by omega)), by first | trivial | rfl⟩
        case measure => simp [intOf]; omega
    · obtain rfl : k = n := by omega
      have j1 : ¬ (k : Int) < (k : Int) := by omega
      have hrf : r = false := by
        rw [Hr.out]
        refine decide_eq_false (fun hm => ?_)
        obtain ⟨i, hi, e⟩ := List.getElem_of_mem hm
        exact Hno.out i (by rw [Hn.out]; exact hi) (by rw [← getD_getH hi]; exact e)
      subst hrf
      go_wp2_with fail
      go_ret
      exact ⟨rfl, rfl⟩

def WidePost (ls : List (List UInt8)) (w : World) (e : Ending) (w' : World) : Prop := ∃ b : Bool, e = .returned (.bool b) ∧ (b = false → ∀ t ∈ ls, t.length ≤ 512) ∧ w = w'
/-! ### clash -/
theorem run_append_bagNH {P : Program} {B size m : Nat} {v : Value} {cs : List Value} (t tx ty e : TypeId) (i : TypeInfo) (z : Value) (bytes : Nat) (ht : P.underlying t = some (.slice e)) (hi : P.info? e = some i) (hz : i.zero = some z) (hsize : i.size = size) (hby : i.bytes = bytes) (hzs : z.cells.size = size)
    {w : World} (hBw : B ≤ w.heap.size) (h : Bag0 w B size v m cs) (x : Value) (n : Nat) (news : List Value) (hs : Src P size tx x n news w) (h63 : m + n ≤ maxLen) (hbytes : (m + n) * bytes ≤ 140737488355328) :
    ∃ v' w', (Builtin.append_ #[t, tx] ty #[v, x]).run P w = .ok v' w' ∧ Bag0 w' B size v' (m + n) (cs ++ news) ∧ Below B w w' := by
  rcases Nat.eq_zero_or_pos n with h0 | h0
  · subst h0
    have hl := hs.newsLen
    obtain rfl : news = [] := List.eq_nil_of_length_eq_zero (by omega)
    obtain ⟨A, cap, rfl, -, hle⟩ := h.shape
    subst hsize
    exact ⟨_, w, run_append_nothing w t tx ty e i ht hi A m cap hle x hs, by simpa using h, Below.refl _ _⟩
  · exact run_append_bag0 t tx ty e i z bytes ht hi hz hsize hby hzs hBw h x n news hs h0 h63 hbytes
theorem wpList_append_bagNH {P : Program} (w : World) {ops : Array Oper} {rest : List Oper} {o : Oper} {a : Act} {Q : Exit → Act → World → Prop} (hgd : o.guard = none) (s x : Operand) (t tx : TypeId)
    (ho : o.op = .call { callee := .builtin .append, args := #[s, x], argTypes := #[t, tx] })
    {e : TypeId} {B size m : Nat} {v : Value} {cs : List Value}
    (i : TypeInfo) (z : Value) (bytes : Nat) (ht : P.underlying t = some (.slice e)) (hi : P.info? e = some i) (hz : i.zero = some z) (hsize : i.size = size) (hby : i.bytes = bytes) (hzs : z.cells.size = size)
    (hBw : B ≤ w.heap.size) (hv : a.eval s = v) (h : Bag0 w B size v m cs)
    (xv : Value) (n : Nat) (news : List Value) (hx : a.eval x = xv) (hs : Src P size tx xv n news w) (h63 : m + n ≤ maxLen) (hbytes : (m + n) * bytes ≤ 140737488355328)
    (hK : ∀ v' w', Bag0 w' B size v' (m + n) (cs ++ news) → Below B w w' → wpList P ops Q rest (a.put o.dst v') w') : wpList P ops Q (o :: rest) a w := by
  refine wpList_plain hgd fun K hK' => ?_
  obtain ⟨v', w', hrun, h1, h2⟩ := run_append_bagNH (P := P) t tx o.type e i z bytes ht hi hz hsize hby hzs hBw h xv n news hs h63 hbytes
  unfold Oper.wp
  simp [execOp, ho, resolve, invoke, builtin, hv, hx, hrun, Result.andThen]
  exact hK' _ _ (hK v' w' h1 h2)
theorem strs_src {w : World} {B : Nat} {A : Option Addr} {ls : List (List UInt8)} (cap : Nat) (h : Strs w B A ls) : Src Tryd.prog 1 49 (.slice A ls.length cap) ls.length (rowT ls) w := by
  cases A with
  | none =>
    have h0 : ls = [] := by
      cases ls with
      | nil => rfl
      | cons t ts => obtain ⟨a, e, -⟩ := h 0 (by simp); cases e
    subst h0
    exact ⟨.inl ⟨_, Tryd.underlying49⟩, fun w' => rfl, rfl, rfl, rfl, fun u hu => by cases hu⟩
  | some a =>
    refine Src.ofSlice w Tryd.underlying49 a ls.length cap (rowT ls) (by simp [rowT]) (fun j u hu => ?_) (fun u hu => ?_)
    · unfold rowT at hu
      rw [List.getElem?_map] at hu
      obtain ⟨t, ht, rfl⟩ := Option.map_eq_some_iff.1 hu
      obtain ⟨hj, e⟩ := List.getElem?_eq_some_iff.1 ht
      obtain ⟨a', e', -, hc⟩ := h j hj
      obtain rfl := Option.some.inj e'
      rw [← e]; exact hc
    · unfold rowT at hu
      obtain ⟨t, -, rfl⟩ := List.mem_map.1 hu
      rfl

/-- no two texts of a list are unlike and have one digest -/
def AloneH (K : List Int) (l : List (List UInt8)) (j : Nat) : Prop := ∀ i, i < j → ∀ k, k < i → l.getD i [] ≠ l.getD k [] → hashB K (l.getD i []) ≠ hashB K (l.getD k [])
def AloneAtH (K : List Int) (ls : List (List UInt8)) (j c : Nat) : Prop := ∀ k, k < c → ls.getD j [] ≠ ls.getD k [] → hashB K (ls.getD j []) ≠ hashB K (ls.getD k [])
theorem aloneAtH_zero (K : List Int) (ls : List (List UInt8)) (j : Nat) : AloneAtH K ls j 0 := fun k hk => by omega
theorem aloneH_zero (K : List Int) (ls : List (List UInt8)) : AloneH K ls 0 := fun k hk => by omega
theorem aloneAtH_step {K : List Int} {ls : List (List UInt8)} {j c : Nat} {t1 t2 : List UInt8} (h : AloneAtH K ls j c) (e1 : t1 = ls.getD j []) (e2 : t2 = ls.getD c []) (h2 : t1 = t2 ∨ hashB K t1 ≠ hashB K t2) : AloneAtH K ls j (c + 1) := fun k hk hne => by
  by_cases e : k = c
  · subst e
    rw [← e1, ← e2] at hne ⊢
    rcases h2 with h2 | h2
    · exact absurd h2 hne
    · exact h2
  · exact h k (by omega) hne
theorem aloneH_step {K : List Int} {ls : List (List UInt8)} {j : Nat} (h : AloneH K ls j) (h2 : AloneAtH K ls j j) : AloneH K ls (j + 1) := fun i hi => by
  by_cases e : i = j
  · rw [e]; exact h2
  · exact h i (by omega)
def ClashPost (K : List Int) (l : List (List UInt8)) (w : World) (e : Ending) (w' : World) : Prop := ∃ b : Bool, e = .returned (.bool b) ∧ (b = false → AloneH K l l.length) ∧ Below w.heap.size w w'
set_option maxHeartbeats 4000000 in
set_option maxRecDepth 100000 in
theorem clash_any (K : List Int) (A : Option Addr) (cap : Nat) (as_ : List (List UInt8)) (A2 : Option Addr) (cap2 : Nat) (bs : List (List UInt8)) (w : World) (hL : Laid K w) (hS : Strs w w.heap.size A as_) (hS2 : Strs w w.heap.size A2 bs) (hl : as_.length ≤ 1000) (hl2 : bs.length ≤ 1000) (ht : ∀ t ∈ as_ ++ bs, t.length ≤ 1000000) :
    Calls Tryd.prog 22 #[.slice A as_.length cap, .slice A2 bs.length cap2] w (ClashPost K (as_ ++ bs) w) := by
  obtain ⟨l, hld⟩ : ∃ l, l = as_ ++ bs := ⟨_, rfl⟩
  rw [← hld] at ht ⊢
  obtain ⟨i0, hi0, hz0, hz1, hz2⟩ := info_parts str_info
  have hb1 := (Below.refl w.heap.size w).alloc (Nat.le_refl _) (.cells #[] 9)
  have hbag : Bag0 (w.alloc (.cells #[] 9)) w.heap.size 1 (.slice (some ⟨w.heap.size, 0, none⟩) 0 0) 0 [] := .inr ⟨_, _, rfl, Nat.le_refl _, ⟨Nat.le_refl _, by decide, by simp, rfl, fun j u hu => by simp at hu, fun j hj => by omega⟩⟩
  have hsrc := strs_src cap (hS.below hb1 (Nat.le_refl _))
  have HS2 := Lib.hid hS2
  have HL := Lib.hid hL
  have Ht := Lib.hid ht
  have Hb1 := Lib.hid hb1
  go_enter Tryd.func22, Tryd.ntmps22
  go_wp2_with (at_builtin; refine wpList_append_bagNH (B := w.heap.size) _ rfl _ _ 49 49 rfl i0 _ 16 Tryd.underlying49 hi0 hz0 hz1 hz2 rfl (by simp) rfl hbag _ _ _ rfl hsrc (by unfold maxLen; omega) (by omega) ?_)
  intro v1 w2 hB2 hb2
  have hbw2 : Below w.heap.size w w2 := hb1.trans hb2
  have hsrc2 := strs_src cap2 (HS2.out.below hbw2 (Nat.le_refl _))
  have hsz2 := hbw2.size
  clear hsrc hbag
  go_wp2_with (at_builtin; refine wpList_append_bagNH (B := w.heap.size) w2 rfl _ _ 49 49 rfl i0 _ 16 Tryd.underlying49 hi0 hz0 hz1 hz2 rfl hsz2 rfl hB2 _ _ _ rfl hsrc2 (by unfold maxLen; omega) (by omega) ?_)
  intro v2 w3 hB3 hb3
  have hbw3 : Below w.heap.size w w3 := hbw2.trans hb3
  have hll : as_.length + bs.length = l.length := by rw [hld, List.length_append]
  have hrt : rowT as_ ++ rowT bs = rowT l := by rw [hld]; unfold rowT; rw [List.map_append]
  rw [hll, hrt] at hB3
  have hS3 : ∃ A9 c9, v2 = .slice A9 l.length c9 ∧ Strs w3 w3.heap.size A9 l := by
    obtain ⟨A9, c9, hv, -, -⟩ := hB3.shape
    refine ⟨A9, c9, hv, fun i hi => ?_⟩
    rcases hB3 with ⟨h1, h2, -⟩ | ⟨g, cap9, h1, hg, hB⟩
    · omega
    · rw [h1] at hv
      injection hv with hv1 hv2 hv3
      refine ⟨⟨g, 0, none⟩, hv1.symm, hB.lt, ?_⟩
      have := hB.holds i (.string ⟨(l[i]).toArray⟩) (by unfold rowT; rw [List.getElem?_map, List.getElem?_eq_getElem hi]; rfl)
      rw [Addr.add_lit, Nat.zero_add]; exact this
  obtain ⟨A9, c9, rfl, hS3⟩ := hS3
  obtain ⟨m, hm⟩ : ∃ m, m = l.length := ⟨_, rfl⟩
  have hm2 : m ≤ 2000 := by omega
  rw [← hm]
  have Hm := Lib.hid hm
  have HS := Lib.hid hS3
  have HW3 := Lib.hid hbw3
  have HL3 := Lib.hid (HL.out.below hbw3)
  have Htt : Hid (∀ j, j < m → (l.getD j []).length ≤ 1000000) := Lib.hid (fun j hj => by rw [← getD_getH (by rw [← hm]; exact hj)]; exact Ht.out _ (List.getElem_mem _))
  have m63 : (m : Int) ≤ 9223372036854775807 := by omega
  clear hB2 hb2 hbw2 hsrc2 hsz2 hB3 hb3 hbw3 hld hll hrt hm hS3 hb1 hL hS hS2 hl hl2 ht HS2 Hb1 HL i0 hi0 hz0 hz1 hz2
  go_wp2_with fail
  go_loopw [6] (fun i wr => ∃ j : Nat, j ≤ m ∧ i = .int .i64 j ∧ AloneH K l j ∧ Below w3.heap.size w3 wr) (fun i _ => m - (intOf i).toNat)
  case atStart => exact ⟨0, by omega, rfl, aloneH_zero _ _, Below.refl _ _⟩
  case round =>
    obtain ⟨j, hj, rfl, hAl, hb⟩ := hrel
    have HAl := Lib.hid hAl
    have Hb := Lib.hid hb
    clear hAl hb
    by_cases hjm : j < m
    · have j1 : (j : Int) < (m : Int) := by omega
      have hjl : j < l.length := by rw [← Hm.out]; exact hjm
      obtain ⟨a, rfl, hab, hc0⟩ := HS.out j hjl
      rw [getD_getH hjl] at hc0
      obtain ⟨t1, ht1⟩ : ∃ t, t = l.getD j [] := ⟨_, rfl⟩
      rw [← ht1] at hc0
      have ht1l : t1.length ≤ 1000000 := by rw [ht1]; exact Htt.out j hjm
      have Ht1 := Lib.hid ht1
      have Hc0 := Lib.hid hc0
      have Hab := Lib.hid hab
      clear ht1 hc0 hab
      have hl1 := hashB_length K t1
      obtain ⟨h1, hh1⟩ : ∃ h, h = hashB K t1 := ⟨_, rfl⟩
      rw [← hh1] at hl1
      have Hh1 := Lib.hid hh1
      have Hl1 := Lib.hid hl1
      clear hh1 hl1
      go_wp2_with fail
      go_loopw [7] (fun kv wr => ∃ c : Nat, c ≤ j ∧ kv = .int .i64 c ∧ AloneAtH K l j c ∧ Below w3.heap.size w3 wr) (fun kv _ => j - (intOf kv).toNat)
      case atStart => exact ⟨0, by omega, rfl, aloneAtH_zero _ _ _, Hb.out⟩
      case round =>
        obtain ⟨c, hc, rfl, hac, hbx⟩ := hrel
        have HAc := Lib.hid hac
        have Hbx := Lib.hid hbx
        clear hac hbx
        by_cases hcj : c < j
        · have c1 : (c : Int) < (j : Int) := by omega
          have c2 : (c : Int) < (m : Int) := by omega
          have hcl : c < l.length := by rw [← Hm.out]; omega
          obtain ⟨a', ea, -, hk0⟩ := HS.out c hcl
          obtain rfl := Option.some.inj ea
          have hck := (Hbx.out.cell (p := a.add c) (by rw [block_add]; exact Hab.out)).trans hk0
          rw [getD_getH hcl] at hck
          have hcx := (Hbx.out.cell (p := a.add j) (by rw [block_add]; exact Hab.out)).trans Hc0.out
          obtain ⟨t2, ht2⟩ : ∃ t, t = l.getD c [] := ⟨_, rfl⟩
          rw [← ht2] at hck
          have Ht2 := Lib.hid ht2
          have ht2l : t2.length ≤ 1000000 := by rw [ht2]; exact Htt.out c (by omega)
          have laj : (a.add j).block < wr.heap.size := by rw [block_add]; exact Nat.lt_of_lt_of_le Hab.out Hbx.out.size
          have lac : (a.add c).block < wr.heap.size := by rw [block_add]; exact Nat.lt_of_lt_of_le Hab.out Hbx.out.size
          have hl2 := hashB_length K t2
          obtain ⟨h2, hh2⟩ : ∃ h, h = hashB K t2 := ⟨_, rfl⟩
          rw [← hh2] at hl2
          have Hh2 := Lib.hid hh2
          have HL0 := Lib.hid (HL3.out.below Hbx.out)
          have heq : ∀ W : World, (Op.equalIn 10000 23 (.agg (digV h1)) (.agg (digV h2))).run Tryd.prog W = .ok (h1 == h2) W := fun W => eqIn_dig W h1 h2 Hl1.out hl2
          clear hk0 ea ht2 hh2
          go_upto_region 8 with fail
          by_cases hte : t1 = t2
          · have Hte := Lib.hid hte
            subst hte
            refine wp_region_held_drew (S := fun w' => Below wr.heap.size wr w') (by kernel_rfl) ((Below.refl _ _).drew) (fun hH0 => ?_)
            obtain ⟨W0, hW0⟩ : ∃ W, W = wr.drew := ⟨_, rfl⟩
            rw [← hW0] at hH0 ⊢
            clear hW0
            refine wpAnyH_take (i := 0) (v := ?_) rfl (by kernel_rfl) (by kernel_rfl) (by kernel_rfl) (fun _ _ _ h => h) (Or.inl ⟨by kernel_rfl, ?_⟩) hH0 ?_
            rotate_left 1
            · intro w hSw
              go_simp
              try with_reducible rfl
            try simp only [Act.put, List.getElem_toArray, List.getElem_cons_zero, List.getElem_cons_succ, List.setIfInBounds_toArray, List.set_cons_zero, List.set_cons_succ]
            refine wpAnyH_take (i := 1) (v := ?_) rfl (by kernel_rfl) (by kernel_rfl) (by kernel_rfl) (fun _ _ _ h => h) (Or.inl ⟨by kernel_rfl, ?_⟩) hH0 ?_
            rotate_left 1
            · intro w hSw
              go_simp
              try with_reducible rfl
            try simp only [Act.put, List.getElem_toArray, List.getElem_cons_zero, List.getElem_cons_succ, List.setIfInBounds_toArray, List.set_cons_zero, List.set_cons_succ]
            refine wpAnyH_take (i := 2) (v := ?_) rfl (by kernel_rfl) (by kernel_rfl) (by kernel_rfl) (fun _ _ _ h => h) (Or.inl ⟨by kernel_rfl, ?_⟩) hH0 ?_
            rotate_left 1
            · intro w hSw
              go_simp
              try with_reducible rfl
            try simp only [Act.put, List.getElem_toArray, List.getElem_cons_zero, List.getElem_cons_succ, List.setIfInBounds_toArray, List.set_cons_zero, List.set_cons_succ]
            refine wpAnyH_take (i := 3) (v := ?_) rfl (by kernel_rfl) (by kernel_rfl) (by kernel_rfl) (fun _ _ _ h => h) (Or.inl ⟨by kernel_rfl, ?_⟩) hH0 ?_
            rotate_left 1
            · intro w hSw
              have f0 := (hSw.cell (p := (a.add j)) laj).trans hcx
              have f1 := (hSw.cell (p := (a.add c)) lac).trans hck
              go_simp
              try with_reducible rfl
            try simp only [Act.put, List.getElem_toArray, List.getElem_cons_zero, List.getElem_cons_succ, List.setIfInBounds_toArray, List.set_cons_zero, List.set_cons_succ]
            refine wpAnyH_take (i := 4) (v := ?_) rfl (by kernel_rfl) (by kernel_rfl) (by kernel_rfl) (fun _ _ _ h => h) (Or.inl ⟨by kernel_rfl, ?_⟩) hH0 ?_
            rotate_left 1
            · intro w hSw
              go_simp
              try with_reducible rfl
            try simp only [Act.put, List.getElem_toArray, List.getElem_cons_zero, List.getElem_cons_succ, List.setIfInBounds_toArray, List.set_cons_zero, List.set_cons_succ]
            refine wpAnyH_take (i := 5) (v := ?_) rfl (by kernel_rfl) (by kernel_rfl) (by kernel_rfl) (fun _ _ _ h => h) (Or.inl ⟨by kernel_rfl, ?_⟩) hH0 ?_
            rotate_left 1
            · intro w hSw
              go_simp
              try with_reducible rfl
            try simp only [Act.put, List.getElem_toArray, List.getElem_cons_zero, List.getElem_cons_succ, List.setIfInBounds_toArray, List.set_cons_zero, List.set_cons_succ]
            refine wpAnyH_take (i := 6) (v := ?_) rfl (by kernel_rfl) (by kernel_rfl) (by kernel_rfl) (fun _ _ _ h => h) (Or.inl ⟨by kernel_rfl, ?_⟩) hH0 ?_
            rotate_left 1
            · intro w hSw
              go_simp
              try with_reducible rfl
            try simp only [Act.put, List.getElem_toArray, List.getElem_cons_zero, List.getElem_cons_succ, List.setIfInBounds_toArray, List.set_cons_zero, List.set_cons_succ]
            refine wpAnyH_take (i := 7) (v := ?_) rfl (by kernel_rfl) (by kernel_rfl) (by kernel_rfl) (fun _ _ _ h => h) (Or.inl ⟨by kernel_rfl, ?_⟩) hH0 ?_
            rotate_left 1
            · intro w hSw
              have f0 := (hSw.cell (p := (a.add j)) laj).trans hcx
              have f1 := (hSw.cell (p := (a.add c)) lac).trans hck
              go_simp
              try with_reducible rfl
            try simp only [Act.put, List.getElem_toArray, List.getElem_cons_zero, List.getElem_cons_succ, List.setIfInBounds_toArray, List.set_cons_zero, List.set_cons_succ]
            refine wpAnyH_take (i := 8) (v := ?_) rfl (by kernel_rfl) (by kernel_rfl) (by kernel_rfl) (fun _ _ _ h => h) (Or.inl ⟨by kernel_rfl, ?_⟩) hH0 ?_
            rotate_left 1
            · intro w hSw
              go_simp
              try with_reducible rfl
            try simp only [Act.put, List.getElem_toArray, List.getElem_cons_zero, List.getElem_cons_succ, List.setIfInBounds_toArray, List.set_cons_zero, List.set_cons_succ]
            refine wpAnyH_take (i := 9) (v := ?_) rfl (by kernel_rfl) (by kernel_rfl) (by kernel_rfl) (fun _ _ _ h => h) (Or.inl ⟨by kernel_rfl, ?_⟩) hH0 ?_
            rotate_left 1
            · intro w hSw
              go_simp
              try with_reducible rfl
            try simp only [Act.put, List.getElem_toArray, List.getElem_cons_zero, List.getElem_cons_succ, List.setIfInBounds_toArray, List.set_cons_zero, List.set_cons_succ]
            refine wpAnyH_take (i := 10) (v := undef) rfl (by kernel_rfl) (by kernel_rfl) (by kernel_rfl) (fun _ _ _ h => h) (Or.inr ⟨by kernel_rfl, rfl⟩) hH0 ?_
            try simp only [Act.put, List.getElem_toArray, List.getElem_cons_zero, List.getElem_cons_succ, List.setIfInBounds_toArray, List.set_cons_zero, List.set_cons_succ]
            refine wpAnyH_take (i := 11) (v := undef) rfl (by kernel_rfl) (by kernel_rfl) (by kernel_rfl) (fun _ _ _ h => h) (Or.inr ⟨by kernel_rfl, rfl⟩) hH0 ?_
            try simp only [Act.put, List.getElem_toArray, List.getElem_cons_zero, List.getElem_cons_succ, List.setIfInBounds_toArray, List.set_cons_zero, List.set_cons_succ]
            refine wpAnyH_take (i := 12) (v := undef) rfl (by kernel_rfl) (by kernel_rfl) (by kernel_rfl) (fun _ _ _ h => h) (Or.inr ⟨by kernel_rfl, rfl⟩) hH0 ?_
            try simp only [Act.put, List.getElem_toArray, List.getElem_cons_zero, List.getElem_cons_succ, List.setIfInBounds_toArray, List.set_cons_zero, List.set_cons_succ]
            refine wpAnyH_take (i := 13) (v := undef) rfl (by kernel_rfl) (by kernel_rfl) (by kernel_rfl) (fun _ _ _ h => h) (Or.inr ⟨by kernel_rfl, rfl⟩) hH0 ?_
            try simp only [Act.put, List.getElem_toArray, List.getElem_cons_zero, List.getElem_cons_succ, List.setIfInBounds_toArray, List.set_cons_zero, List.set_cons_succ]
            refine wpAnyH_take (i := 14) (v := undef) rfl (by kernel_rfl) (by kernel_rfl) (by kernel_rfl) (fun _ _ _ h => h) (Or.inr ⟨by kernel_rfl, rfl⟩) hH0 ?_
            try simp only [Act.put, List.getElem_toArray, List.getElem_cons_zero, List.getElem_cons_succ, List.setIfInBounds_toArray, List.set_cons_zero, List.set_cons_succ]
            refine wpAnyH_take (i := 15) (v := undef) rfl (by kernel_rfl) (by kernel_rfl) (by kernel_rfl) (fun _ _ _ h => h) (Or.inr ⟨by kernel_rfl, rfl⟩) hH0 ?_
            try simp only [Act.put, List.getElem_toArray, List.getElem_cons_zero, List.getElem_cons_succ, List.setIfInBounds_toArray, List.set_cons_zero, List.set_cons_succ]
            refine wpAnyH_take (i := 16) (v := undef) rfl (by kernel_rfl) (by kernel_rfl) (by kernel_rfl) (fun _ _ _ h => h) (Or.inr ⟨by kernel_rfl, rfl⟩) hH0 ?_
            try simp only [Act.put, List.getElem_toArray, List.getElem_cons_zero, List.getElem_cons_succ, List.setIfInBounds_toArray, List.set_cons_zero, List.set_cons_succ]
            refine wpAnyH_take (i := 17) (v := undef) rfl (by kernel_rfl) (by kernel_rfl) (by kernel_rfl) (fun _ _ _ h => h) (Or.inr ⟨by kernel_rfl, rfl⟩) hH0 ?_
            try simp only [Act.put, List.getElem_toArray, List.getElem_cons_zero, List.getElem_cons_succ, List.setIfInBounds_toArray, List.set_cons_zero, List.set_cons_succ]
            refine wpAnyH_take (i := 18) (v := undef) rfl (by kernel_rfl) (by kernel_rfl) (by kernel_rfl) (fun _ _ _ h => h) (Or.inr ⟨by kernel_rfl, rfl⟩) hH0 ?_
            try simp only [Act.put, List.getElem_toArray, List.getElem_cons_zero, List.getElem_cons_succ, List.setIfInBounds_toArray, List.set_cons_zero, List.set_cons_succ]
            refine wpAnyH_take (i := 19) (v := undef) rfl (by kernel_rfl) (by kernel_rfl) (by kernel_rfl) (fun _ _ _ h => h) (Or.inr ⟨by kernel_rfl, rfl⟩) hH0 ?_
            try simp only [Act.put, List.getElem_toArray, List.getElem_cons_zero, List.getElem_cons_succ, List.setIfInBounds_toArray, List.set_cons_zero, List.set_cons_succ]
            refine wpAnyH_take (i := 20) (v := undef) rfl (by kernel_rfl) (by kernel_rfl) (by kernel_rfl) (fun _ _ _ h => h) (Or.inr ⟨by kernel_rfl, rfl⟩) hH0 ?_
            try simp only [Act.put, List.getElem_toArray, List.getElem_cons_zero, List.getElem_cons_succ, List.setIfInBounds_toArray, List.set_cons_zero, List.set_cons_succ]
            refine wpAnyH_take (i := 21) (v := undef) rfl (by kernel_rfl) (by kernel_rfl) (by kernel_rfl) (fun _ _ _ h => h) (Or.inr ⟨by kernel_rfl, rfl⟩) hH0 ?_
            try simp only [Act.put, List.getElem_toArray, List.getElem_cons_zero, List.getElem_cons_succ, List.setIfInBounds_toArray, List.set_cons_zero, List.set_cons_succ]
            refine wpAnyH_take (i := 22) (v := undef) rfl (by kernel_rfl) (by kernel_rfl) (by kernel_rfl) (fun _ _ _ h => h) (Or.inr ⟨by kernel_rfl, rfl⟩) hH0 ?_
            try simp only [Act.put, List.getElem_toArray, List.getElem_cons_zero, List.getElem_cons_succ, List.setIfInBounds_toArray, List.set_cons_zero, List.set_cons_succ]
            refine wpAnyH_take (i := 23) (v := ?_) rfl (by kernel_rfl) (by kernel_rfl) (by kernel_rfl) (fun _ _ _ h => h) (Or.inl ⟨by kernel_rfl, ?_⟩) hH0 ?_
            rotate_left 1
            · intro w hSw
              go_simp
              try with_reducible rfl
            try simp only [Act.put, List.getElem_toArray, List.getElem_cons_zero, List.getElem_cons_succ, List.setIfInBounds_toArray, List.set_cons_zero, List.set_cons_succ]
            refine wpAnyH_done (by kernel_rfl) ?_ _
            have Hx := Lib.hid (Hbx.out.trans (hH0.mono Hbx.out.size))
            clear hH0
            go_wp2_with fail
            go_roundw
            case rel => exact ⟨c + 1, by omega, by go_num, aloneAtH_step HAc.out Ht1.out Ht2.out (Or.inl rfl), Hx.out⟩
            case measure => simp [intOf]; omega
          have hn1 : (t1 != t2) = true := by simpa using hte
          have hn2 : (t1 == t2) = false := by simpa using hte
          by_cases hd : h1 = h2
          · rw [show (h1 == h2) = true by simp [hd]] at heq
            clear hd
            refine wp_region_held_drew (S := fun w' => Below wr.heap.size wr w') (by kernel_rfl) ((Below.refl _ _).drew) (fun hH0 => ?_)
            obtain ⟨W0, hW0⟩ : ∃ W, W = wr.drew := ⟨_, rfl⟩
            rw [← hW0] at hH0 ⊢
            clear hW0
            refine wpAnyH_take (i := 0) (v := ?_) rfl (by kernel_rfl) (by kernel_rfl) (by kernel_rfl) (fun _ _ _ h => h) (Or.inl ⟨by kernel_rfl, ?_⟩) hH0 ?_
            rotate_left 1
            · intro w hSw
              go_simp
              try with_reducible rfl
            try simp only [Act.put, List.getElem_toArray, List.getElem_cons_zero, List.getElem_cons_succ, List.setIfInBounds_toArray, List.set_cons_zero, List.set_cons_succ]
            refine wpAnyH_take (i := 1) (v := ?_) rfl (by kernel_rfl) (by kernel_rfl) (by kernel_rfl) (fun _ _ _ h => h) (Or.inl ⟨by kernel_rfl, ?_⟩) hH0 ?_
            rotate_left 1
            · intro w hSw
              go_simp
              try with_reducible rfl
            try simp only [Act.put, List.getElem_toArray, List.getElem_cons_zero, List.getElem_cons_succ, List.setIfInBounds_toArray, List.set_cons_zero, List.set_cons_succ]
            refine wpAnyH_take (i := 2) (v := ?_) rfl (by kernel_rfl) (by kernel_rfl) (by kernel_rfl) (fun _ _ _ h => h) (Or.inl ⟨by kernel_rfl, ?_⟩) hH0 ?_
            rotate_left 1
            · intro w hSw
              go_simp
              try with_reducible rfl
            try simp only [Act.put, List.getElem_toArray, List.getElem_cons_zero, List.getElem_cons_succ, List.setIfInBounds_toArray, List.set_cons_zero, List.set_cons_succ]
            refine wpAnyH_take (i := 3) (v := ?_) rfl (by kernel_rfl) (by kernel_rfl) (by kernel_rfl) (fun _ _ _ h => h) (Or.inl ⟨by kernel_rfl, ?_⟩) hH0 ?_
            rotate_left 1
            · intro w hSw
              have f0 := (hSw.cell (p := (a.add j)) laj).trans hcx
              have f1 := (hSw.cell (p := (a.add c)) lac).trans hck
              go_simp
              try with_reducible rfl
            try simp only [Act.put, List.getElem_toArray, List.getElem_cons_zero, List.getElem_cons_succ, List.setIfInBounds_toArray, List.set_cons_zero, List.set_cons_succ]
            refine wpAnyH_take (i := 4) (v := ?_) rfl (by kernel_rfl) (by kernel_rfl) (by kernel_rfl) (fun _ _ _ h => h) (Or.inl ⟨by kernel_rfl, ?_⟩) hH0 ?_
            rotate_left 1
            · intro w hSw
              go_simp
              try with_reducible rfl
            try simp only [Act.put, List.getElem_toArray, List.getElem_cons_zero, List.getElem_cons_succ, List.setIfInBounds_toArray, List.set_cons_zero, List.set_cons_succ]
            refine wpAnyH_take (i := 5) (v := ?_) rfl (by kernel_rfl) (by kernel_rfl) (by kernel_rfl) (fun _ _ _ h => h) (Or.inl ⟨by kernel_rfl, ?_⟩) hH0 ?_
            rotate_left 1
            · intro w hSw
              go_simp
              try with_reducible rfl
            try simp only [Act.put, List.getElem_toArray, List.getElem_cons_zero, List.getElem_cons_succ, List.setIfInBounds_toArray, List.set_cons_zero, List.set_cons_succ]
            refine wpAnyH_take (i := 6) (v := ?_) rfl (by kernel_rfl) (by kernel_rfl) (by kernel_rfl) (fun _ _ _ h => h) (Or.inl ⟨by kernel_rfl, ?_⟩) hH0 ?_
            rotate_left 1
            · intro w hSw
              go_simp
              try with_reducible rfl
            try simp only [Act.put, List.getElem_toArray, List.getElem_cons_zero, List.getElem_cons_succ, List.setIfInBounds_toArray, List.set_cons_zero, List.set_cons_succ]
            refine wpAnyH_take (i := 7) (v := ?_) rfl (by kernel_rfl) (by kernel_rfl) (by kernel_rfl) (fun _ _ _ h => h) (Or.inl ⟨by kernel_rfl, ?_⟩) hH0 ?_
            rotate_left 1
            · intro w hSw
              have f0 := (hSw.cell (p := (a.add j)) laj).trans hcx
              have f1 := (hSw.cell (p := (a.add c)) lac).trans hck
              go_simp
              try with_reducible rfl
            try simp only [Act.put, List.getElem_toArray, List.getElem_cons_zero, List.getElem_cons_succ, List.setIfInBounds_toArray, List.set_cons_zero, List.set_cons_succ]
            refine wpAnyH_take (i := 8) (v := ?_) rfl (by kernel_rfl) (by kernel_rfl) (by kernel_rfl) (fun _ _ _ h => h) (Or.inl ⟨by kernel_rfl, ?_⟩) hH0 ?_
            rotate_left 1
            · intro w hSw
              go_simp
              try with_reducible rfl
            try simp only [Act.put, List.getElem_toArray, List.getElem_cons_zero, List.getElem_cons_succ, List.setIfInBounds_toArray, List.set_cons_zero, List.set_cons_succ]
            refine wpAnyH_take (i := 9) (v := ?_) rfl (by kernel_rfl) (by kernel_rfl) (by kernel_rfl) (fun _ _ _ h => h) (Or.inl ⟨by kernel_rfl, ?_⟩) hH0 ?_
            rotate_left 1
            · intro w hSw
              go_simp
              try with_reducible rfl
            try simp only [Act.put, List.getElem_toArray, List.getElem_cons_zero, List.getElem_cons_succ, List.setIfInBounds_toArray, List.set_cons_zero, List.set_cons_succ]
            refine wpAnyH_take (i := 10) (v := ?_) rfl (by kernel_rfl) (by kernel_rfl) (by kernel_rfl) (fun _ _ _ h => h) (Or.inl ⟨by kernel_rfl, ?_⟩) hH0 ?_
            rotate_left 1
            · intro w hSw
              go_simp
              try with_reducible rfl
            try simp only [Act.put, List.getElem_toArray, List.getElem_cons_zero, List.getElem_cons_succ, List.setIfInBounds_toArray, List.set_cons_zero, List.set_cons_succ]
            refine wpAnyH_take (i := 11) (v := ?_) rfl (by kernel_rfl) (by kernel_rfl) (by kernel_rfl) (fun _ _ _ h => h) (Or.inl ⟨by kernel_rfl, ?_⟩) hH0 ?_
            rotate_left 1
            · intro w hSw
              go_simp
              try with_reducible rfl
            try simp only [Act.put, List.getElem_toArray, List.getElem_cons_zero, List.getElem_cons_succ, List.setIfInBounds_toArray, List.set_cons_zero, List.set_cons_succ]
            refine wpAnyH_take (i := 12) (v := ?_) rfl (by kernel_rfl) (by kernel_rfl) (by kernel_rfl) (fun _ _ _ h => h) (Or.inl ⟨by kernel_rfl, ?_⟩) hH0 ?_
            rotate_left 1
            · intro w hSw
              go_simp
              try with_reducible rfl
            try simp only [Act.put, List.getElem_toArray, List.getElem_cons_zero, List.getElem_cons_succ, List.setIfInBounds_toArray, List.set_cons_zero, List.set_cons_succ]
            refine wpAnyH_take (i := 13) (v := ?_) rfl (by kernel_rfl) (by kernel_rfl) (by kernel_rfl) (fun _ _ _ h => h) (Or.inl ⟨by kernel_rfl, ?_⟩) hH0 ?_
            rotate_left 1
            · intro w hSw
              have f0 := (hSw.cell (p := (a.add j)) laj).trans hcx
              have f1 := (hSw.cell (p := (a.add c)) lac).trans hck
              go_simp
              try with_reducible rfl
            try simp only [Act.put, List.getElem_toArray, List.getElem_cons_zero, List.getElem_cons_succ, List.setIfInBounds_toArray, List.set_cons_zero, List.set_cons_succ]
            refine wpAnyH_take (i := 16) (v := ?_) rfl (by kernel_rfl) (by kernel_rfl) (by kernel_rfl) (fun _ _ _ h => h) (Or.inl ⟨by kernel_rfl, ?_⟩) hH0 ?_
            rotate_left 1
            · intro w hSw
              go_simp
              try with_reducible rfl
            try simp only [Act.put, List.getElem_toArray, List.getElem_cons_zero, List.getElem_cons_succ, List.setIfInBounds_toArray, List.set_cons_zero, List.set_cons_succ]
            refine wpAnyH_take (i := 17) (v := ?_) rfl (by kernel_rfl) (by kernel_rfl) (by kernel_rfl) (fun _ _ _ h => h) (Or.inl ⟨by kernel_rfl, ?_⟩) hH0 ?_
            rotate_left 1
            · intro w hSw
              go_simp
              try with_reducible rfl
            try simp only [Act.put, List.getElem_toArray, List.getElem_cons_zero, List.getElem_cons_succ, List.setIfInBounds_toArray, List.set_cons_zero, List.set_cons_succ]
            refine wpAnyH_take (i := 18) (v := ?_) rfl (by kernel_rfl) (by kernel_rfl) (by kernel_rfl) (fun _ _ _ h => h) (Or.inl ⟨by kernel_rfl, ?_⟩) hH0 ?_
            rotate_left 1
            · intro w hSw
              go_simp
              try with_reducible rfl
            try simp only [Act.put, List.getElem_toArray, List.getElem_cons_zero, List.getElem_cons_succ, List.setIfInBounds_toArray, List.set_cons_zero, List.set_cons_succ]
            refine wpAnyH_take (i := 19) (v := ?_) rfl (by kernel_rfl) (by kernel_rfl) (by kernel_rfl) (fun _ _ _ h => h) (Or.inl ⟨by kernel_rfl, ?_⟩) hH0 ?_
            rotate_left 1
            · intro w hSw
              have f0 := (hSw.cell (p := (a.add j)) laj).trans hcx
              have f1 := (hSw.cell (p := (a.add c)) lac).trans hck
              go_simp
              try with_reducible rfl
            try simp only [Act.put, List.getElem_toArray, List.getElem_cons_zero, List.getElem_cons_succ, List.setIfInBounds_toArray, List.set_cons_zero, List.set_cons_succ]
            refine wpAnyH_ready (rs := [14, 20]) (by kernel_rfl) (by simp) ?_
            refine AllReadyH.cons rfl (fun K_ hK => ?_) ?_
            · go_simp
              have hb1 := (Below.refl W0.heap.size W0).alloc (Nat.le_refl _) (.cells #[.string ⟨(t1).toArray⟩] 9)
              have cb1 : (W0.alloc (.cells #[.string ⟨(t1).toArray⟩] 9)).cell? ⟨W0.heap.size, 0, none⟩ = some (.string ⟨(t1).toArray⟩) := by rw [Lib.cell_of_heap (heap_alloc_new W0 _)]; rfl
              obtain ⟨W1, hW1⟩ : ∃ W, W = W0.alloc (.cells #[.string ⟨(t1).toArray⟩] 9) := ⟨_, rfl⟩
              have hl1 : W0.heap.size < W1.heap.size := by rw [hW1]; simp
              rw [← hW1] at hb1 cb1 ⊢
              clear hW1
              refine hK.out _ _ ((hH0).trans (hb1.mono (hH0).size)) (fun hH1 => ?_)
              clear hK K_
              try simp only [Act.put, List.getElem_toArray, List.getElem_cons_zero, List.getElem_cons_succ, List.setIfInBounds_toArray, List.set_cons_zero, List.set_cons_succ]
              refine wpAnyH_ready (rs := [15, 20]) (by kernel_rfl) (by simp) ?_
              refine AllReadyH.cons rfl (fun K_ hK => ?_) ?_
              · go_simp
                refine (of_hash K _ 1 (t1) _ (HL0.out.below hH1) ⟨_, rfl, cb1⟩ (by omega)).mono ?_
                rintro e W2 ⟨rfl, hb2⟩
                rw [← Hh1.out]
                have c14_2 := (hb2.cell (p := ⟨W0.heap.size, 0, none⟩) hl1).trans cb1
                have l14_2 : (⟨W0.heap.size, 0, none⟩ : Addr).block < W2.heap.size := Nat.lt_of_lt_of_le hl1 hb2.size
                refine hK.out _ _ ((hH1).trans (hb2.mono (hH1).size)) (fun hH2 => ?_)
                clear hK K_
                try simp only [Act.put, List.getElem_toArray, List.getElem_cons_zero, List.getElem_cons_succ, List.setIfInBounds_toArray, List.set_cons_zero, List.set_cons_succ]
                refine wpAnyH_ready (rs := [20]) (by kernel_rfl) (by simp) ?_
                refine AllReadyH.cons rfl (fun K_ hK => ?_) ?_
                · go_simp
                  have hb3 := (Below.refl W2.heap.size W2).alloc (Nat.le_refl _) (.cells #[.string ⟨(t2).toArray⟩] 9)
                  have cb3 : (W2.alloc (.cells #[.string ⟨(t2).toArray⟩] 9)).cell? ⟨W2.heap.size, 0, none⟩ = some (.string ⟨(t2).toArray⟩) := by rw [Lib.cell_of_heap (heap_alloc_new W2 _)]; rfl
                  obtain ⟨W3, hW3⟩ : ∃ W, W = W2.alloc (.cells #[.string ⟨(t2).toArray⟩] 9) := ⟨_, rfl⟩
                  have hl3 : W2.heap.size < W3.heap.size := by rw [hW3]; simp
                  rw [← hW3] at hb3 cb3 ⊢
                  clear hW3
                  have c14_3 := (hb3.cell (p := ⟨W0.heap.size, 0, none⟩) l14_2).trans c14_2
                  have l14_3 : (⟨W0.heap.size, 0, none⟩ : Addr).block < W3.heap.size := Nat.lt_of_lt_of_le l14_2 hb3.size
                  refine hK.out _ _ ((hH2).trans (hb3.mono (hH2).size)) (fun hH3 => ?_)
                  clear hK K_
                  try simp only [Act.put, List.getElem_toArray, List.getElem_cons_zero, List.getElem_cons_succ, List.setIfInBounds_toArray, List.set_cons_zero, List.set_cons_succ]
                  refine wpAnyH_ready (rs := [21]) (by kernel_rfl) (by simp) ?_
                  refine AllReadyH.cons rfl (fun K_ hK => ?_) ?_
                  · go_simp
                    refine (of_hash K _ 1 (t2) _ (HL0.out.below hH3) ⟨_, rfl, cb3⟩ (by omega)).mono ?_
                    rintro e W4 ⟨rfl, hb4⟩
                    rw [← Hh2.out]
                    have c14_4 := (hb4.cell (p := ⟨W0.heap.size, 0, none⟩) l14_3).trans c14_3
                    have l14_4 : (⟨W0.heap.size, 0, none⟩ : Addr).block < W4.heap.size := Nat.lt_of_lt_of_le l14_3 hb4.size
                    have c20_4 := (hb4.cell (p := ⟨W2.heap.size, 0, none⟩) hl3).trans cb3
                    have l20_4 : (⟨W2.heap.size, 0, none⟩ : Addr).block < W4.heap.size := Nat.lt_of_lt_of_le hl3 hb4.size
                    refine hK.out _ _ ((hH3).trans (hb4.mono (hH3).size)) (fun hH4 => ?_)
                    clear hK K_
                    try simp only [Act.put, List.getElem_toArray, List.getElem_cons_zero, List.getElem_cons_succ, List.setIfInBounds_toArray, List.set_cons_zero, List.set_cons_succ]
                    refine wpAnyH_take (i := 22) (v := ?_) rfl (by kernel_rfl) (by kernel_rfl) (by kernel_rfl) (fun _ _ _ h => h) (Or.inl ⟨by kernel_rfl, ?_⟩) hH4 ?_
                    rotate_left 1
                    · intro w hSw
                      go_simp
                      try with_reducible rfl
                    try simp only [Act.put, List.getElem_toArray, List.getElem_cons_zero, List.getElem_cons_succ, List.setIfInBounds_toArray, List.set_cons_zero, List.set_cons_succ]
                    refine wpAnyH_take (i := 23) (v := ?_) rfl (by kernel_rfl) (by kernel_rfl) (by kernel_rfl) (fun _ _ _ h => h) (Or.inl ⟨by kernel_rfl, ?_⟩) hH4 ?_
                    rotate_left 1
                    · intro w hSw
                      go_simp
                      try with_reducible rfl
                    try simp only [Act.put, List.getElem_toArray, List.getElem_cons_zero, List.getElem_cons_succ, List.setIfInBounds_toArray, List.set_cons_zero, List.set_cons_succ]
                    refine wpAnyH_done (by kernel_rfl) ?_ _
                    have Hx := Lib.hid (Hbx.out.trans (hH4.mono Hbx.out.size))
                    clear hH4
                    go_wp2_with fail
                    go_ret
                    exact ⟨true, rfl, (fun h => by cases h), HW3.out.trans (Hx.out.mono HW3.out.size)⟩
                  exact AllReadyH.nil
                exact AllReadyH.nil
              refine AllReadyH.cons rfl (fun K_ hK => ?_) ?_
              · go_simp
                have hb5 := (Below.refl W1.heap.size W1).alloc (Nat.le_refl _) (.cells #[.string ⟨(t2).toArray⟩] 9)
                have cb5 : (W1.alloc (.cells #[.string ⟨(t2).toArray⟩] 9)).cell? ⟨W1.heap.size, 0, none⟩ = some (.string ⟨(t2).toArray⟩) := by rw [Lib.cell_of_heap (heap_alloc_new W1 _)]; rfl
                obtain ⟨W5, hW5⟩ : ∃ W, W = W1.alloc (.cells #[.string ⟨(t2).toArray⟩] 9) := ⟨_, rfl⟩
                have hl5 : W1.heap.size < W5.heap.size := by rw [hW5]; simp
                rw [← hW5] at hb5 cb5 ⊢
                clear hW5
                have c14_5 := (hb5.cell (p := ⟨W0.heap.size, 0, none⟩) hl1).trans cb1
                have l14_5 : (⟨W0.heap.size, 0, none⟩ : Addr).block < W5.heap.size := Nat.lt_of_lt_of_le hl1 hb5.size
                refine hK.out _ _ ((hH1).trans (hb5.mono (hH1).size)) (fun hH5 => ?_)
                clear hK K_
                try simp only [Act.put, List.getElem_toArray, List.getElem_cons_zero, List.getElem_cons_succ, List.setIfInBounds_toArray, List.set_cons_zero, List.set_cons_succ]
                refine wpAnyH_ready (rs := [15]) (by kernel_rfl) (by simp) ?_
                refine AllReadyH.cons rfl (fun K_ hK => ?_) ?_
                · go_simp
                  refine (of_hash K _ 1 (t1) _ (HL0.out.below hH5) ⟨_, rfl, c14_5⟩ (by omega)).mono ?_
                  rintro e W6 ⟨rfl, hb6⟩
                  rw [← Hh1.out]
                  have c14_6 := (hb6.cell (p := ⟨W0.heap.size, 0, none⟩) l14_5).trans c14_5
                  have l14_6 : (⟨W0.heap.size, 0, none⟩ : Addr).block < W6.heap.size := Nat.lt_of_lt_of_le l14_5 hb6.size
                  have c20_6 := (hb6.cell (p := ⟨W1.heap.size, 0, none⟩) hl5).trans cb5
                  have l20_6 : (⟨W1.heap.size, 0, none⟩ : Addr).block < W6.heap.size := Nat.lt_of_lt_of_le hl5 hb6.size
                  refine hK.out _ _ ((hH5).trans (hb6.mono (hH5).size)) (fun hH6 => ?_)
                  clear hK K_
                  try simp only [Act.put, List.getElem_toArray, List.getElem_cons_zero, List.getElem_cons_succ, List.setIfInBounds_toArray, List.set_cons_zero, List.set_cons_succ]
                  refine wpAnyH_ready (rs := [21]) (by kernel_rfl) (by simp) ?_
                  refine AllReadyH.cons rfl (fun K_ hK => ?_) ?_
                  · go_simp
                    refine (of_hash K _ 1 (t2) _ (HL0.out.below hH6) ⟨_, rfl, c20_6⟩ (by omega)).mono ?_
                    rintro e W7 ⟨rfl, hb7⟩
                    rw [← Hh2.out]
                    have c14_7 := (hb7.cell (p := ⟨W0.heap.size, 0, none⟩) l14_6).trans c14_6
                    have l14_7 : (⟨W0.heap.size, 0, none⟩ : Addr).block < W7.heap.size := Nat.lt_of_lt_of_le l14_6 hb7.size
                    have c20_7 := (hb7.cell (p := ⟨W1.heap.size, 0, none⟩) l20_6).trans c20_6
                    have l20_7 : (⟨W1.heap.size, 0, none⟩ : Addr).block < W7.heap.size := Nat.lt_of_lt_of_le l20_6 hb7.size
                    refine hK.out _ _ ((hH6).trans (hb7.mono (hH6).size)) (fun hH7 => ?_)
                    clear hK K_
                    try simp only [Act.put, List.getElem_toArray, List.getElem_cons_zero, List.getElem_cons_succ, List.setIfInBounds_toArray, List.set_cons_zero, List.set_cons_succ]
                    refine wpAnyH_take (i := 22) (v := ?_) rfl (by kernel_rfl) (by kernel_rfl) (by kernel_rfl) (fun _ _ _ h => h) (Or.inl ⟨by kernel_rfl, ?_⟩) hH7 ?_
                    rotate_left 1
                    · intro w hSw
                      go_simp
                      try with_reducible rfl
                    try simp only [Act.put, List.getElem_toArray, List.getElem_cons_zero, List.getElem_cons_succ, List.setIfInBounds_toArray, List.set_cons_zero, List.set_cons_succ]
                    refine wpAnyH_take (i := 23) (v := ?_) rfl (by kernel_rfl) (by kernel_rfl) (by kernel_rfl) (fun _ _ _ h => h) (Or.inl ⟨by kernel_rfl, ?_⟩) hH7 ?_
                    rotate_left 1
                    · intro w hSw
                      go_simp
                      try with_reducible rfl
                    try simp only [Act.put, List.getElem_toArray, List.getElem_cons_zero, List.getElem_cons_succ, List.setIfInBounds_toArray, List.set_cons_zero, List.set_cons_succ]
                    refine wpAnyH_done (by kernel_rfl) ?_ _
                    have Hx := Lib.hid (Hbx.out.trans (hH7.mono Hbx.out.size))
                    clear hH7
                    go_wp2_with fail
                    go_ret
                    exact ⟨true, rfl, (fun h => by cases h), HW3.out.trans (Hx.out.mono HW3.out.size)⟩
                  exact AllReadyH.nil
                exact AllReadyH.nil
              exact AllReadyH.nil
            refine AllReadyH.cons rfl (fun K_ hK => ?_) ?_
            · go_simp
              have hb8 := (Below.refl W0.heap.size W0).alloc (Nat.le_refl _) (.cells #[.string ⟨(t2).toArray⟩] 9)
              have cb8 : (W0.alloc (.cells #[.string ⟨(t2).toArray⟩] 9)).cell? ⟨W0.heap.size, 0, none⟩ = some (.string ⟨(t2).toArray⟩) := by rw [Lib.cell_of_heap (heap_alloc_new W0 _)]; rfl
              obtain ⟨W8, hW8⟩ : ∃ W, W = W0.alloc (.cells #[.string ⟨(t2).toArray⟩] 9) := ⟨_, rfl⟩
              have hl8 : W0.heap.size < W8.heap.size := by rw [hW8]; simp
              rw [← hW8] at hb8 cb8 ⊢
              clear hW8
              refine hK.out _ _ ((hH0).trans (hb8.mono (hH0).size)) (fun hH8 => ?_)
              clear hK K_
              try simp only [Act.put, List.getElem_toArray, List.getElem_cons_zero, List.getElem_cons_succ, List.setIfInBounds_toArray, List.set_cons_zero, List.set_cons_succ]
              refine wpAnyH_ready (rs := [14]) (by kernel_rfl) (by simp) ?_
              refine AllReadyH.cons rfl (fun K_ hK => ?_) ?_
              · go_simp
                have hb9 := (Below.refl W8.heap.size W8).alloc (Nat.le_refl _) (.cells #[.string ⟨(t1).toArray⟩] 9)
                have cb9 : (W8.alloc (.cells #[.string ⟨(t1).toArray⟩] 9)).cell? ⟨W8.heap.size, 0, none⟩ = some (.string ⟨(t1).toArray⟩) := by rw [Lib.cell_of_heap (heap_alloc_new W8 _)]; rfl
                obtain ⟨W9, hW9⟩ : ∃ W, W = W8.alloc (.cells #[.string ⟨(t1).toArray⟩] 9) := ⟨_, rfl⟩
                have hl9 : W8.heap.size < W9.heap.size := by rw [hW9]; simp
                rw [← hW9] at hb9 cb9 ⊢
                clear hW9
                have c20_9 := (hb9.cell (p := ⟨W0.heap.size, 0, none⟩) hl8).trans cb8
                have l20_9 : (⟨W0.heap.size, 0, none⟩ : Addr).block < W9.heap.size := Nat.lt_of_lt_of_le hl8 hb9.size
                refine hK.out _ _ ((hH8).trans (hb9.mono (hH8).size)) (fun hH9 => ?_)
                clear hK K_
                try simp only [Act.put, List.getElem_toArray, List.getElem_cons_zero, List.getElem_cons_succ, List.setIfInBounds_toArray, List.set_cons_zero, List.set_cons_succ]
                refine wpAnyH_ready (rs := [15]) (by kernel_rfl) (by simp) ?_
                refine AllReadyH.cons rfl (fun K_ hK => ?_) ?_
                · go_simp
                  refine (of_hash K _ 1 (t1) _ (HL0.out.below hH9) ⟨_, rfl, cb9⟩ (by omega)).mono ?_
                  rintro e W10 ⟨rfl, hb10⟩
                  rw [← Hh1.out]
                  have c20_10 := (hb10.cell (p := ⟨W0.heap.size, 0, none⟩) l20_9).trans c20_9
                  have l20_10 : (⟨W0.heap.size, 0, none⟩ : Addr).block < W10.heap.size := Nat.lt_of_lt_of_le l20_9 hb10.size
                  have c14_10 := (hb10.cell (p := ⟨W8.heap.size, 0, none⟩) hl9).trans cb9
                  have l14_10 : (⟨W8.heap.size, 0, none⟩ : Addr).block < W10.heap.size := Nat.lt_of_lt_of_le hl9 hb10.size
                  refine hK.out _ _ ((hH9).trans (hb10.mono (hH9).size)) (fun hH10 => ?_)
                  clear hK K_
                  try simp only [Act.put, List.getElem_toArray, List.getElem_cons_zero, List.getElem_cons_succ, List.setIfInBounds_toArray, List.set_cons_zero, List.set_cons_succ]
                  refine wpAnyH_ready (rs := [21]) (by kernel_rfl) (by simp) ?_
                  refine AllReadyH.cons rfl (fun K_ hK => ?_) ?_
                  · go_simp
                    refine (of_hash K _ 1 (t2) _ (HL0.out.below hH10) ⟨_, rfl, c20_10⟩ (by omega)).mono ?_
                    rintro e W11 ⟨rfl, hb11⟩
                    rw [← Hh2.out]
                    have c20_11 := (hb11.cell (p := ⟨W0.heap.size, 0, none⟩) l20_10).trans c20_10
                    have l20_11 : (⟨W0.heap.size, 0, none⟩ : Addr).block < W11.heap.size := Nat.lt_of_lt_of_le l20_10 hb11.size
                    have c14_11 := (hb11.cell (p := ⟨W8.heap.size, 0, none⟩) l14_10).trans c14_10
                    have l14_11 : (⟨W8.heap.size, 0, none⟩ : Addr).block < W11.heap.size := Nat.lt_of_lt_of_le l14_10 hb11.size
                    refine hK.out _ _ ((hH10).trans (hb11.mono (hH10).size)) (fun hH11 => ?_)
                    clear hK K_
                    try simp only [Act.put, List.getElem_toArray, List.getElem_cons_zero, List.getElem_cons_succ, List.setIfInBounds_toArray, List.set_cons_zero, List.set_cons_succ]
                    refine wpAnyH_take (i := 22) (v := ?_) rfl (by kernel_rfl) (by kernel_rfl) (by kernel_rfl) (fun _ _ _ h => h) (Or.inl ⟨by kernel_rfl, ?_⟩) hH11 ?_
                    rotate_left 1
                    · intro w hSw
                      go_simp
                      try with_reducible rfl
                    try simp only [Act.put, List.getElem_toArray, List.getElem_cons_zero, List.getElem_cons_succ, List.setIfInBounds_toArray, List.set_cons_zero, List.set_cons_succ]
                    refine wpAnyH_take (i := 23) (v := ?_) rfl (by kernel_rfl) (by kernel_rfl) (by kernel_rfl) (fun _ _ _ h => h) (Or.inl ⟨by kernel_rfl, ?_⟩) hH11 ?_
                    rotate_left 1
                    · intro w hSw
                      go_simp
                      try with_reducible rfl
                    try simp only [Act.put, List.getElem_toArray, List.getElem_cons_zero, List.getElem_cons_succ, List.setIfInBounds_toArray, List.set_cons_zero, List.set_cons_succ]
                    refine wpAnyH_done (by kernel_rfl) ?_ _
                    have Hx := Lib.hid (Hbx.out.trans (hH11.mono Hbx.out.size))
                    clear hH11
                    go_wp2_with fail
                    go_ret
                    exact ⟨true, rfl, (fun h => by cases h), HW3.out.trans (Hx.out.mono HW3.out.size)⟩
                  exact AllReadyH.nil
                exact AllReadyH.nil
              exact AllReadyH.nil
            exact AllReadyH.nil
          · rw [show (h1 == h2) = false by simp [hd]] at heq
            have Hd : Hid (hashB K t1 ≠ hashB K t2) := Lib.hid (by rw [← Hh1.out, ← Hh2.out]; exact hd)
            clear hd
            refine wp_region_held_drew (S := fun w' => Below wr.heap.size wr w') (by kernel_rfl) ((Below.refl _ _).drew) (fun hH0 => ?_)
            obtain ⟨W0, hW0⟩ : ∃ W, W = wr.drew := ⟨_, rfl⟩
            rw [← hW0] at hH0 ⊢
            clear hW0
            refine wpAnyH_take (i := 0) (v := ?_) rfl (by kernel_rfl) (by kernel_rfl) (by kernel_rfl) (fun _ _ _ h => h) (Or.inl ⟨by kernel_rfl, ?_⟩) hH0 ?_
            rotate_left 1
            · intro w hSw
              go_simp
              try with_reducible rfl
            try simp only [Act.put, List.getElem_toArray, List.getElem_cons_zero, List.getElem_cons_succ, List.setIfInBounds_toArray, List.set_cons_zero, List.set_cons_succ]
            refine wpAnyH_take (i := 1) (v := ?_) rfl (by kernel_rfl) (by kernel_rfl) (by kernel_rfl) (fun _ _ _ h => h) (Or.inl ⟨by kernel_rfl, ?_⟩) hH0 ?_
            rotate_left 1
            · intro w hSw
              go_simp
              try with_reducible rfl
            try simp only [Act.put, List.getElem_toArray, List.getElem_cons_zero, List.getElem_cons_succ, List.setIfInBounds_toArray, List.set_cons_zero, List.set_cons_succ]
            refine wpAnyH_take (i := 2) (v := ?_) rfl (by kernel_rfl) (by kernel_rfl) (by kernel_rfl) (fun _ _ _ h => h) (Or.inl ⟨by kernel_rfl, ?_⟩) hH0 ?_
            rotate_left 1
            · intro w hSw
              go_simp
              try with_reducible rfl
            try simp only [Act.put, List.getElem_toArray, List.getElem_cons_zero, List.getElem_cons_succ, List.setIfInBounds_toArray, List.set_cons_zero, List.set_cons_succ]
            refine wpAnyH_take (i := 3) (v := ?_) rfl (by kernel_rfl) (by kernel_rfl) (by kernel_rfl) (fun _ _ _ h => h) (Or.inl ⟨by kernel_rfl, ?_⟩) hH0 ?_
            rotate_left 1
            · intro w hSw
              have f0 := (hSw.cell (p := (a.add j)) laj).trans hcx
              have f1 := (hSw.cell (p := (a.add c)) lac).trans hck
              go_simp
              try with_reducible rfl
            try simp only [Act.put, List.getElem_toArray, List.getElem_cons_zero, List.getElem_cons_succ, List.setIfInBounds_toArray, List.set_cons_zero, List.set_cons_succ]
            refine wpAnyH_take (i := 4) (v := ?_) rfl (by kernel_rfl) (by kernel_rfl) (by kernel_rfl) (fun _ _ _ h => h) (Or.inl ⟨by kernel_rfl, ?_⟩) hH0 ?_
            rotate_left 1
            · intro w hSw
              go_simp
              try with_reducible rfl
            try simp only [Act.put, List.getElem_toArray, List.getElem_cons_zero, List.getElem_cons_succ, List.setIfInBounds_toArray, List.set_cons_zero, List.set_cons_succ]
            refine wpAnyH_take (i := 5) (v := ?_) rfl (by kernel_rfl) (by kernel_rfl) (by kernel_rfl) (fun _ _ _ h => h) (Or.inl ⟨by kernel_rfl, ?_⟩) hH0 ?_
            rotate_left 1
            · intro w hSw
              go_simp
              try with_reducible rfl
            try simp only [Act.put, List.getElem_toArray, List.getElem_cons_zero, List.getElem_cons_succ, List.setIfInBounds_toArray, List.set_cons_zero, List.set_cons_succ]
            refine wpAnyH_take (i := 6) (v := ?_) rfl (by kernel_rfl) (by kernel_rfl) (by kernel_rfl) (fun _ _ _ h => h) (Or.inl ⟨by kernel_rfl, ?_⟩) hH0 ?_
            rotate_left 1
            · intro w hSw
              go_simp
              try with_reducible rfl
            try simp only [Act.put, List.getElem_toArray, List.getElem_cons_zero, List.getElem_cons_succ, List.setIfInBounds_toArray, List.set_cons_zero, List.set_cons_succ]
            refine wpAnyH_take (i := 7) (v := ?_) rfl (by kernel_rfl) (by kernel_rfl) (by kernel_rfl) (fun _ _ _ h => h) (Or.inl ⟨by kernel_rfl, ?_⟩) hH0 ?_
            rotate_left 1
            · intro w hSw
              have f0 := (hSw.cell (p := (a.add j)) laj).trans hcx
              have f1 := (hSw.cell (p := (a.add c)) lac).trans hck
              go_simp
              try with_reducible rfl
            try simp only [Act.put, List.getElem_toArray, List.getElem_cons_zero, List.getElem_cons_succ, List.setIfInBounds_toArray, List.set_cons_zero, List.set_cons_succ]
            refine wpAnyH_take (i := 8) (v := ?_) rfl (by kernel_rfl) (by kernel_rfl) (by kernel_rfl) (fun _ _ _ h => h) (Or.inl ⟨by kernel_rfl, ?_⟩) hH0 ?_
            rotate_left 1
            · intro w hSw
              go_simp
              try with_reducible rfl
            try simp only [Act.put, List.getElem_toArray, List.getElem_cons_zero, List.getElem_cons_succ, List.setIfInBounds_toArray, List.set_cons_zero, List.set_cons_succ]
            refine wpAnyH_take (i := 9) (v := ?_) rfl (by kernel_rfl) (by kernel_rfl) (by kernel_rfl) (fun _ _ _ h => h) (Or.inl ⟨by kernel_rfl, ?_⟩) hH0 ?_
            rotate_left 1
            · intro w hSw
              go_simp
              try with_reducible rfl
            try simp only [Act.put, List.getElem_toArray, List.getElem_cons_zero, List.getElem_cons_succ, List.setIfInBounds_toArray, List.set_cons_zero, List.set_cons_succ]
            refine wpAnyH_take (i := 10) (v := ?_) rfl (by kernel_rfl) (by kernel_rfl) (by kernel_rfl) (fun _ _ _ h => h) (Or.inl ⟨by kernel_rfl, ?_⟩) hH0 ?_
            rotate_left 1
            · intro w hSw
              go_simp
              try with_reducible rfl
            try simp only [Act.put, List.getElem_toArray, List.getElem_cons_zero, List.getElem_cons_succ, List.setIfInBounds_toArray, List.set_cons_zero, List.set_cons_succ]
            refine wpAnyH_take (i := 11) (v := ?_) rfl (by kernel_rfl) (by kernel_rfl) (by kernel_rfl) (fun _ _ _ h => h) (Or.inl ⟨by kernel_rfl, ?_⟩) hH0 ?_
            rotate_left 1
            · intro w hSw
              go_simp
              try with_reducible rfl
            try simp only [Act.put, List.getElem_toArray, List.getElem_cons_zero, List.getElem_cons_succ, List.setIfInBounds_toArray, List.set_cons_zero, List.set_cons_succ]
            refine wpAnyH_take (i := 12) (v := ?_) rfl (by kernel_rfl) (by kernel_rfl) (by kernel_rfl) (fun _ _ _ h => h) (Or.inl ⟨by kernel_rfl, ?_⟩) hH0 ?_
            rotate_left 1
            · intro w hSw
              go_simp
              try with_reducible rfl
            try simp only [Act.put, List.getElem_toArray, List.getElem_cons_zero, List.getElem_cons_succ, List.setIfInBounds_toArray, List.set_cons_zero, List.set_cons_succ]
            refine wpAnyH_take (i := 13) (v := ?_) rfl (by kernel_rfl) (by kernel_rfl) (by kernel_rfl) (fun _ _ _ h => h) (Or.inl ⟨by kernel_rfl, ?_⟩) hH0 ?_
            rotate_left 1
            · intro w hSw
              have f0 := (hSw.cell (p := (a.add j)) laj).trans hcx
              have f1 := (hSw.cell (p := (a.add c)) lac).trans hck
              go_simp
              try with_reducible rfl
            try simp only [Act.put, List.getElem_toArray, List.getElem_cons_zero, List.getElem_cons_succ, List.setIfInBounds_toArray, List.set_cons_zero, List.set_cons_succ]
            refine wpAnyH_take (i := 16) (v := ?_) rfl (by kernel_rfl) (by kernel_rfl) (by kernel_rfl) (fun _ _ _ h => h) (Or.inl ⟨by kernel_rfl, ?_⟩) hH0 ?_
            rotate_left 1
            · intro w hSw
              go_simp
              try with_reducible rfl
            try simp only [Act.put, List.getElem_toArray, List.getElem_cons_zero, List.getElem_cons_succ, List.setIfInBounds_toArray, List.set_cons_zero, List.set_cons_succ]
            refine wpAnyH_take (i := 17) (v := ?_) rfl (by kernel_rfl) (by kernel_rfl) (by kernel_rfl) (fun _ _ _ h => h) (Or.inl ⟨by kernel_rfl, ?_⟩) hH0 ?_
            rotate_left 1
            · intro w hSw
              go_simp
              try with_reducible rfl
            try simp only [Act.put, List.getElem_toArray, List.getElem_cons_zero, List.getElem_cons_succ, List.setIfInBounds_toArray, List.set_cons_zero, List.set_cons_succ]
            refine wpAnyH_take (i := 18) (v := ?_) rfl (by kernel_rfl) (by kernel_rfl) (by kernel_rfl) (fun _ _ _ h => h) (Or.inl ⟨by kernel_rfl, ?_⟩) hH0 ?_
            rotate_left 1
            · intro w hSw
              go_simp
              try with_reducible rfl
            try simp only [Act.put, List.getElem_toArray, List.getElem_cons_zero, List.getElem_cons_succ, List.setIfInBounds_toArray, List.set_cons_zero, List.set_cons_succ]
            refine wpAnyH_take (i := 19) (v := ?_) rfl (by kernel_rfl) (by kernel_rfl) (by kernel_rfl) (fun _ _ _ h => h) (Or.inl ⟨by kernel_rfl, ?_⟩) hH0 ?_
            rotate_left 1
            · intro w hSw
              have f0 := (hSw.cell (p := (a.add j)) laj).trans hcx
              have f1 := (hSw.cell (p := (a.add c)) lac).trans hck
              go_simp
              try with_reducible rfl
            try simp only [Act.put, List.getElem_toArray, List.getElem_cons_zero, List.getElem_cons_succ, List.setIfInBounds_toArray, List.set_cons_zero, List.set_cons_succ]
            refine wpAnyH_ready (rs := [14, 20]) (by kernel_rfl) (by simp) ?_
            refine AllReadyH.cons rfl (fun K_ hK => ?_) ?_
            · go_simp
              have hb1 := (Below.refl W0.heap.size W0).alloc (Nat.le_refl _) (.cells #[.string ⟨(t1).toArray⟩] 9)
              have cb1 : (W0.alloc (.cells #[.string ⟨(t1).toArray⟩] 9)).cell? ⟨W0.heap.size, 0, none⟩ = some (.string ⟨(t1).toArray⟩) := by rw [Lib.cell_of_heap (heap_alloc_new W0 _)]; rfl
              obtain ⟨W1, hW1⟩ : ∃ W, W = W0.alloc (.cells #[.string ⟨(t1).toArray⟩] 9) := ⟨_, rfl⟩
              have hl1 : W0.heap.size < W1.heap.size := by rw [hW1]; simp
              rw [← hW1] at hb1 cb1 ⊢
              clear hW1
              refine hK.out _ _ ((hH0).trans (hb1.mono (hH0).size)) (fun hH1 => ?_)
              clear hK K_
              try simp only [Act.put, List.getElem_toArray, List.getElem_cons_zero, List.getElem_cons_succ, List.setIfInBounds_toArray, List.set_cons_zero, List.set_cons_succ]
              refine wpAnyH_ready (rs := [15, 20]) (by kernel_rfl) (by simp) ?_
              refine AllReadyH.cons rfl (fun K_ hK => ?_) ?_
              · go_simp
                refine (of_hash K _ 1 (t1) _ (HL0.out.below hH1) ⟨_, rfl, cb1⟩ (by omega)).mono ?_
                rintro e W2 ⟨rfl, hb2⟩
                rw [← Hh1.out]
                have c14_2 := (hb2.cell (p := ⟨W0.heap.size, 0, none⟩) hl1).trans cb1
                have l14_2 : (⟨W0.heap.size, 0, none⟩ : Addr).block < W2.heap.size := Nat.lt_of_lt_of_le hl1 hb2.size
                refine hK.out _ _ ((hH1).trans (hb2.mono (hH1).size)) (fun hH2 => ?_)
                clear hK K_
                try simp only [Act.put, List.getElem_toArray, List.getElem_cons_zero, List.getElem_cons_succ, List.setIfInBounds_toArray, List.set_cons_zero, List.set_cons_succ]
                refine wpAnyH_ready (rs := [20]) (by kernel_rfl) (by simp) ?_
                refine AllReadyH.cons rfl (fun K_ hK => ?_) ?_
                · go_simp
                  have hb3 := (Below.refl W2.heap.size W2).alloc (Nat.le_refl _) (.cells #[.string ⟨(t2).toArray⟩] 9)
                  have cb3 : (W2.alloc (.cells #[.string ⟨(t2).toArray⟩] 9)).cell? ⟨W2.heap.size, 0, none⟩ = some (.string ⟨(t2).toArray⟩) := by rw [Lib.cell_of_heap (heap_alloc_new W2 _)]; rfl
                  obtain ⟨W3, hW3⟩ : ∃ W, W = W2.alloc (.cells #[.string ⟨(t2).toArray⟩] 9) := ⟨_, rfl⟩
                  have hl3 : W2.heap.size < W3.heap.size := by rw [hW3]; simp
                  rw [← hW3] at hb3 cb3 ⊢
                  clear hW3
                  have c14_3 := (hb3.cell (p := ⟨W0.heap.size, 0, none⟩) l14_2).trans c14_2
                  have l14_3 : (⟨W0.heap.size, 0, none⟩ : Addr).block < W3.heap.size := Nat.lt_of_lt_of_le l14_2 hb3.size
                  refine hK.out _ _ ((hH2).trans (hb3.mono (hH2).size)) (fun hH3 => ?_)
                  clear hK K_
                  try simp only [Act.put, List.getElem_toArray, List.getElem_cons_zero, List.getElem_cons_succ, List.setIfInBounds_toArray, List.set_cons_zero, List.set_cons_succ]
                  refine wpAnyH_ready (rs := [21]) (by kernel_rfl) (by simp) ?_
                  refine AllReadyH.cons rfl (fun K_ hK => ?_) ?_
                  · go_simp
                    refine (of_hash K _ 1 (t2) _ (HL0.out.below hH3) ⟨_, rfl, cb3⟩ (by omega)).mono ?_
                    rintro e W4 ⟨rfl, hb4⟩
                    rw [← Hh2.out]
                    have c14_4 := (hb4.cell (p := ⟨W0.heap.size, 0, none⟩) l14_3).trans c14_3
                    have l14_4 : (⟨W0.heap.size, 0, none⟩ : Addr).block < W4.heap.size := Nat.lt_of_lt_of_le l14_3 hb4.size
                    have c20_4 := (hb4.cell (p := ⟨W2.heap.size, 0, none⟩) hl3).trans cb3
                    have l20_4 : (⟨W2.heap.size, 0, none⟩ : Addr).block < W4.heap.size := Nat.lt_of_lt_of_le hl3 hb4.size
                    refine hK.out _ _ ((hH3).trans (hb4.mono (hH3).size)) (fun hH4 => ?_)
                    clear hK K_
                    try simp only [Act.put, List.getElem_toArray, List.getElem_cons_zero, List.getElem_cons_succ, List.setIfInBounds_toArray, List.set_cons_zero, List.set_cons_succ]
                    refine wpAnyH_take (i := 22) (v := ?_) rfl (by kernel_rfl) (by kernel_rfl) (by kernel_rfl) (fun _ _ _ h => h) (Or.inl ⟨by kernel_rfl, ?_⟩) hH4 ?_
                    rotate_left 1
                    · intro w hSw
                      go_simp
                      try with_reducible rfl
                    try simp only [Act.put, List.getElem_toArray, List.getElem_cons_zero, List.getElem_cons_succ, List.setIfInBounds_toArray, List.set_cons_zero, List.set_cons_succ]
                    refine wpAnyH_take (i := 23) (v := ?_) rfl (by kernel_rfl) (by kernel_rfl) (by kernel_rfl) (fun _ _ _ h => h) (Or.inl ⟨by kernel_rfl, ?_⟩) hH4 ?_
                    rotate_left 1
                    · intro w hSw
                      go_simp
                      try with_reducible rfl
                    try simp only [Act.put, List.getElem_toArray, List.getElem_cons_zero, List.getElem_cons_succ, List.setIfInBounds_toArray, List.set_cons_zero, List.set_cons_succ]
                    refine wpAnyH_done (by kernel_rfl) ?_ _
                    have Hx := Lib.hid (Hbx.out.trans (hH4.mono Hbx.out.size))
                    clear hH4
                    go_wp2_with fail
                    go_roundw
                    case rel => exact ⟨c + 1, by omega, by go_num, aloneAtH_step HAc.out Ht1.out Ht2.out (Or.inr Hd.out), Hx.out⟩
                    case measure => simp [intOf]; omega
                  exact AllReadyH.nil
                exact AllReadyH.nil
              refine AllReadyH.cons rfl (fun K_ hK => ?_) ?_
              · go_simp
                have hb5 := (Below.refl W1.heap.size W1).alloc (Nat.le_refl _) (.cells #[.string ⟨(t2).toArray⟩] 9)
                have cb5 : (W1.alloc (.cells #[.string ⟨(t2).toArray⟩] 9)).cell? ⟨W1.heap.size, 0, none⟩ = some (.string ⟨(t2).toArray⟩) := by rw [Lib.cell_of_heap (heap_alloc_new W1 _)]; rfl
                obtain ⟨W5, hW5⟩ : ∃ W, W = W1.alloc (.cells #[.string ⟨(t2).toArray⟩] 9) := ⟨_, rfl⟩
                have hl5 : W1.heap.size < W5.heap.size := by rw [hW5]; simp
                rw [← hW5] at hb5 cb5 ⊢
                clear hW5
                have c14_5 := (hb5.cell (p := ⟨W0.heap.size, 0, none⟩) hl1).trans cb1
                have l14_5 : (⟨W0.heap.size, 0, none⟩ : Addr).block < W5.heap.size := Nat.lt_of_lt_of_le hl1 hb5.size
                refine hK.out _ _ ((hH1).trans (hb5.mono (hH1).size)) (fun hH5 => ?_)
                clear hK K_
                try simp only [Act.put, List.getElem_toArray, List.getElem_cons_zero, List.getElem_cons_succ, List.setIfInBounds_toArray, List.set_cons_zero, List.set_cons_succ]
                refine wpAnyH_ready (rs := [15]) (by kernel_rfl) (by simp) ?_
                refine AllReadyH.cons rfl (fun K_ hK => ?_) ?_
                · go_simp
                  refine (of_hash K _ 1 (t1) _ (HL0.out.below hH5) ⟨_, rfl, c14_5⟩ (by omega)).mono ?_
                  rintro e W6 ⟨rfl, hb6⟩
                  rw [← Hh1.out]
                  have c14_6 := (hb6.cell (p := ⟨W0.heap.size, 0, none⟩) l14_5).trans c14_5
                  have l14_6 : (⟨W0.heap.size, 0, none⟩ : Addr).block < W6.heap.size := Nat.lt_of_lt_of_le l14_5 hb6.size
                  have c20_6 := (hb6.cell (p := ⟨W1.heap.size, 0, none⟩) hl5).trans cb5
                  have l20_6 : (⟨W1.heap.size, 0, none⟩ : Addr).block < W6.heap.size := Nat.lt_of_lt_of_le hl5 hb6.size
                  refine hK.out _ _ ((hH5).trans (hb6.mono (hH5).size)) (fun hH6 => ?_)
                  clear hK K_
                  try simp only [Act.put, List.getElem_toArray, List.getElem_cons_zero, List.getElem_cons_succ, List.setIfInBounds_toArray, List.set_cons_zero, List.set_cons_succ]
                  refine wpAnyH_ready (rs := [21]) (by kernel_rfl) (by simp) ?_
                  refine AllReadyH.cons rfl (fun K_ hK => ?_) ?_
                  · go_simp
                    refine (of_hash K _ 1 (t2) _ (HL0.out.below hH6) ⟨_, rfl, c20_6⟩ (by omega)).mono ?_
                    rintro e W7 ⟨rfl, hb7⟩
                    rw [← Hh2.out]
                    have c14_7 := (hb7.cell (p := ⟨W0.heap.size, 0, none⟩) l14_6).trans c14_6
                    have l14_7 : (⟨W0.heap.size, 0, none⟩ : Addr).block < W7.heap.size := Nat.lt_of_lt_of_le l14_6 hb7.size
                    have c20_7 := (hb7.cell (p := ⟨W1.heap.size, 0, none⟩) l20_6).trans c20_6
                    have l20_7 : (⟨W1.heap.size, 0, none⟩ : Addr).block < W7.heap.size := Nat.lt_of_lt_of_le l20_6 hb7.size
                    refine hK.out _ _ ((hH6).trans (hb7.mono (hH6).size)) (fun hH7 => ?_)
                    clear hK K_
                    try simp only [Act.put, List.getElem_toArray, List.getElem_cons_zero, List.getElem_cons_succ, List.setIfInBounds_toArray, List.set_cons_zero, List.set_cons_succ]
                    refine wpAnyH_take (i := 22) (v := ?_) rfl (by kernel_rfl) (by kernel_rfl) (by kernel_rfl) (fun _ _ _ h => h) (Or.inl ⟨by kernel_rfl, ?_⟩) hH7 ?_
                    rotate_left 1
                    · intro w hSw
                      go_simp
                      try with_reducible rfl
                    try simp only [Act.put, List.getElem_toArray, List.getElem_cons_zero, List.getElem_cons_succ, List.setIfInBounds_toArray, List.set_cons_zero, List.set_cons_succ]
                    refine wpAnyH_take (i := 23) (v := ?_) rfl (by kernel_rfl) (by kernel_rfl) (by kernel_rfl) (fun _ _ _ h => h) (Or.inl ⟨by kernel_rfl, ?_⟩) hH7 ?_
                    rotate_left 1
                    · intro w hSw
                      go_simp
                      try with_reducible rfl
                    try simp only [Act.put, List.getElem_toArray, List.getElem_cons_zero, List.getElem_cons_succ, List.setIfInBounds_toArray, List.set_cons_zero, List.set_cons_succ]
                    refine wpAnyH_done (by kernel_rfl) ?_ _
                    have Hx := Lib.hid (Hbx.out.trans (hH7.mono Hbx.out.size))
                    clear hH7
                    go_wp2_with fail
                    go_roundw
                    case rel => exact ⟨c + 1, by omega, by go_num, aloneAtH_step HAc.out Ht1.out Ht2.out (Or.inr Hd.out), Hx.out⟩
                    case measure => simp [intOf]; omega
                  exact AllReadyH.nil
                exact AllReadyH.nil
              exact AllReadyH.nil
            refine AllReadyH.cons rfl (fun K_ hK => ?_) ?_
            · go_simp
              have hb8 := (Below.refl W0.heap.size W0).alloc (Nat.le_refl _) (.cells #[.string ⟨(t2).toArray⟩] 9)
              have cb8 : (W0.alloc (.cells #[.string ⟨(t2).toArray⟩] 9)).cell? ⟨W0.heap.size, 0, none⟩ = some (.string ⟨(t2).toArray⟩) := by rw [Lib.cell_of_heap (heap_alloc_new W0 _)]; rfl
              obtain ⟨W8, hW8⟩ : ∃ W, W = W0.alloc (.cells #[.string ⟨(t2).toArray⟩] 9) := ⟨_, rfl⟩
              have hl8 : W0.heap.size < W8.heap.size := by rw [hW8]; simp
              rw [← hW8] at hb8 cb8 ⊢
              clear hW8
              refine hK.out _ _ ((hH0).trans (hb8.mono (hH0).size)) (fun hH8 => ?_)
              clear hK K_
              try simp only [Act.put, List.getElem_toArray, List.getElem_cons_zero, List.getElem_cons_succ, List.setIfInBounds_toArray, List.set_cons_zero, List.set_cons_succ]
              refine wpAnyH_ready (rs := [14]) (by kernel_rfl) (by simp) ?_
              refine AllReadyH.cons rfl (fun K_ hK => ?_) ?_
              · go_simp
                have hb9 := (Below.refl W8.heap.size W8).alloc (Nat.le_refl _) (.cells #[.string ⟨(t1).toArray⟩] 9)
                have cb9 : (W8.alloc (.cells #[.string ⟨(t1).toArray⟩] 9)).cell? ⟨W8.heap.size, 0, none⟩ = some (.string ⟨(t1).toArray⟩) := by rw [Lib.cell_of_heap (heap_alloc_new W8 _)]; rfl
                obtain ⟨W9, hW9⟩ : ∃ W, W = W8.alloc (.cells #[.string ⟨(t1).toArray⟩] 9) := ⟨_, rfl⟩
                have hl9 : W8.heap.size < W9.heap.size := by rw [hW9]; simp
                rw [← hW9] at hb9 cb9 ⊢
                clear hW9
                have c20_9 := (hb9.cell (p := ⟨W0.heap.size, 0, none⟩) hl8).trans cb8
                have l20_9 : (⟨W0.heap.size, 0, none⟩ : Addr).block < W9.heap.size := Nat.lt_of_lt_of_le hl8 hb9.size
                refine hK.out _ _ ((hH8).trans (hb9.mono (hH8).size)) (fun hH9 => ?_)
                clear hK K_
                try simp only [Act.put, List.getElem_toArray, List.getElem_cons_zero, List.getElem_cons_succ, List.setIfInBounds_toArray, List.set_cons_zero, List.set_cons_succ]
                refine wpAnyH_ready (rs := [15]) (by kernel_rfl) (by simp) ?_
                refine AllReadyH.cons rfl (fun K_ hK => ?_) ?_
                · go_simp
                  refine (of_hash K _ 1 (t1) _ (HL0.out.below hH9) ⟨_, rfl, cb9⟩ (by omega)).mono ?_
                  rintro e W10 ⟨rfl, hb10⟩
                  rw [← Hh1.out]
                  have c20_10 := (hb10.cell (p := ⟨W0.heap.size, 0, none⟩) l20_9).trans c20_9
                  have l20_10 : (⟨W0.heap.size, 0, none⟩ : Addr).block < W10.heap.size := Nat.lt_of_lt_of_le l20_9 hb10.size
                  have c14_10 := (hb10.cell (p := ⟨W8.heap.size, 0, none⟩) hl9).trans cb9
                  have l14_10 : (⟨W8.heap.size, 0, none⟩ : Addr).block < W10.heap.size := Nat.lt_of_lt_of_le hl9 hb10.size
                  refine hK.out _ _ ((hH9).trans (hb10.mono (hH9).size)) (fun hH10 => ?_)
                  clear hK K_
                  try simp only [Act.put, List.getElem_toArray, List.getElem_cons_zero, List.getElem_cons_succ, List.setIfInBounds_toArray, List.set_cons_zero, List.set_cons_succ]
                  refine wpAnyH_ready (rs := [21]) (by kernel_rfl) (by simp) ?_
                  refine AllReadyH.cons rfl (fun K_ hK => ?_) ?_
                  · go_simp
                    refine (of_hash K _ 1 (t2) _ (HL0.out.below hH10) ⟨_, rfl, c20_10⟩ (by omega)).mono ?_
                    rintro e W11 ⟨rfl, hb11⟩
                    rw [← Hh2.out]
                    have c20_11 := (hb11.cell (p := ⟨W0.heap.size, 0, none⟩) l20_10).trans c20_10
                    have l20_11 : (⟨W0.heap.size, 0, none⟩ : Addr).block < W11.heap.size := Nat.lt_of_lt_of_le l20_10 hb11.size
                    have c14_11 := (hb11.cell (p := ⟨W8.heap.size, 0, none⟩) l14_10).trans c14_10
                    have l14_11 : (⟨W8.heap.size, 0, none⟩ : Addr).block < W11.heap.size := Nat.lt_of_lt_of_le l14_10 hb11.size
                    refine hK.out _ _ ((hH10).trans (hb11.mono (hH10).size)) (fun hH11 => ?_)
                    clear hK K_
                    try simp only [Act.put, List.getElem_toArray, List.getElem_cons_zero, List.getElem_cons_succ, List.setIfInBounds_toArray, List.set_cons_zero, List.set_cons_succ]
                    refine wpAnyH_take (i := 22) (v := ?_) rfl (by kernel_rfl) (by kernel_rfl) (by kernel_rfl) (fun _ _ _ h => h) (Or.inl ⟨by kernel_rfl, ?_⟩) hH11 ?_
                    rotate_left 1
                    · intro w hSw
                      go_simp
                      try with_reducible rfl
                    try simp only [Act.put, List.getElem_toArray, List.getElem_cons_zero, List.getElem_cons_succ, List.setIfInBounds_toArray, List.set_cons_zero, List.set_cons_succ]
                    refine wpAnyH_take (i := 23) (v := ?_) rfl (by kernel_rfl) (by kernel_rfl) (by kernel_rfl) (fun _ _ _ h => h) (Or.inl ⟨by kernel_rfl, ?_⟩) hH11 ?_
                    rotate_left 1
                    · intro w hSw
                      go_simp
                      try with_reducible rfl
                    try simp only [Act.put, List.getElem_toArray, List.getElem_cons_zero, List.getElem_cons_succ, List.setIfInBounds_toArray, List.set_cons_zero, List.set_cons_succ]
                    refine wpAnyH_done (by kernel_rfl) ?_ _
                    have Hx := Lib.hid (Hbx.out.trans (hH11.mono Hbx.out.size))
                    clear hH11
                    go_wp2_with fail
                    go_roundw
                    case rel => exact ⟨c + 1, by omega, by go_num, aloneAtH_step HAc.out Ht1.out Ht2.out (Or.inr Hd.out), Hx.out⟩
                    case measure => simp [intOf]; omega
                  exact AllReadyH.nil
                exact AllReadyH.nil
              exact AllReadyH.nil
            exact AllReadyH.nil
        · obtain rfl : c = j := by omega
          have c1 : ¬ (c : Int) < (c : Int) := by omega
          go_wp2_with fail
          go_roundw
          case rel => exact ⟨c + 1, by omega, by go_num, aloneH_step HAl.out HAc.out, Hbx.out⟩
          case measure => simp [intOf]; omega
    · obtain rfl : j = m := by omega
      have j1 : ¬ (j : Int) < (j : Int) := by omega
      go_wp2_with fail
      go_ret
      exact ⟨false, rfl, fun _ => by rw [← Hm.out]; exact HAl.out, HW3.out.trans (Hb.out.mono HW3.out.size)⟩
end Go.Proofs.YteihfoacdocgkaaDoor
