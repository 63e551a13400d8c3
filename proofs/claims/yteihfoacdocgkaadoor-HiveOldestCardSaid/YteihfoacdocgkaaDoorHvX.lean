/-
  Layer 5 (hive): the walks of load and Open over a shelf whose slots hold whatever texts.
-/
import Derived.Test.YteihfoacdocgkaaDoorHvW
set_option linter.unusedVariables false
set_option linter.unusedSimpArgs false
namespace Go.Proofs.YteihfoacdocgkaaDoor
open Go.RowKit Pl Sh
attribute [local go_sem] Lb.ba_get Lb.ba_cut Lb.ba_add Lb.ba_size Lb.take_rest

/-- an entry but for its block: its kind, its digest, its slot, when it was used, its row -/
abbrev E5 := Bool × List UInt8 × Nat × Int × List UInt8
def e5 (e : HEnt) : E5 := (e.isB, e.id, e.at_, e.used, e.row)
abbrev RdF := List UInt8 → Option (Bool × List UInt8 × List UInt8)
/-- what load makes of the first k slots: the shelf, the entries, whether anything was wiped out -/
def ldS (s0 : St) (RD : RdF) : Nat → St × List E5 × Bool
  | 0 => (s0, [], false)
  | k + 1 => match RD (St.read s0 k) with
    | some (b, i, r) => if (ldS s0 RD k).2.1.any (fun e => e.1 == b && e.2.1 == i) then (St.write (ldS s0 RD k).1 k [], (ldS s0 RD k).2.1, true) else ((ldS s0 RD k).1, (ldS s0 RD k).2.1 ++ [(b, i, k, (((ldS s0 RD k).2.1.length + 1 : Nat) : Int), r)], (ldS s0 RD k).2.2)
    | none => if St.read s0 k = [] then ldS s0 RD k else (St.write (ldS s0 RD k).1 k [], (ldS s0 RD k).2.1, true)
def rdVal : Option (Bool × List UInt8 × List UInt8) → Value
  | some (b, i, r) => .tuple #[.agg (Value.bool b :: byV i).toArray, .string ⟨r.toArray⟩, .bool true]
  | none => .tuple #[.agg zeroName, .string ⟨#[]⟩, .bool false]
def ReadC (RD : RdF) (t : List UInt8) (W : World) : Prop := Calls Tryd.prog 124 #[.string ⟨t.toArray⟩] W fun e w' => e = .returned (rdVal (RD t)) ∧ Below W.heap.size W w'
/-- a shelf that works, of n slots -/
structure Works (s : St) (n a : Nat) : Prop where
  down : s.pw.down = false
  armed : s.pw.armed = 0
  acts : s.pw.acts ≤ a
  life : s.pw.life < 100000
  len : s.slots.length = n
theorem Works.write {s : St} {n a : Nat} (h : Works s n a) {k : Nat} (hk : k < n) (t : List UInt8) (ht : t.length ≤ 640) : St.writeErr s k t = 0 ∧ Works (St.write s k t) n (a + 1) ∧ St.read (St.write s k t) k = t ∧ ∀ i : Nat, i ≠ k → St.read (St.write s k t) i = St.read s i := by
  obtain ⟨f1, f2, f3, f4, f5⟩ := write_facts s k t h.down h.armed (by rw [h.len]; exact hk) ht
  refine ⟨f1, ⟨by rw [f2]; exact h.down, by rw [f2]; exact h.armed, by rw [f2]; have := h.acts; show s.pw.acts + 1 ≤ _; omega, by rw [f2]; exact h.life, by rw [f3]; exact h.len⟩, f4, f5⟩
theorem Works.fits {s : St} {n a : Nat} (h : Works s n a) (ha : a < 1000000) : s.pw.fits 2 := ⟨by have := h.acts; omega, by rw [h.armed]; decide, by have := h.life; omega⟩
theorem Works.more {s : St} {n a a' : Nat} (h : Works s n a) (ha : a ≤ a') : Works s n a' := ⟨h.down, h.armed, Nat.le_trans h.acts ha, h.life, h.len⟩
theorem ldS_works {s0 : St} {RD : RdF} {n a : Nat} (h : Works s0 n a) : ∀ k, k ≤ n → Works (ldS s0 RD k).1 n (a + k) ∧ (∀ i : Nat, k ≤ i → St.read (ldS s0 RD k).1 i = St.read s0 i) ∧ (ldS s0 RD k).2.1.length ≤ k ∧ ∀ e ∈ (ldS s0 RD k).2.1, e.2.2.1 < k
  | 0, _ => ⟨h, fun i _ => rfl, Nat.le_refl _, fun e he => by simp [ldS] at he⟩
  | k + 1, hk => by
    obtain ⟨h1, h2, h3, h4⟩ := ldS_works (RD := RD) h k (by omega)
    have hw := h1.write (k := k) (by omega) [] (by decide)
    unfold ldS
    split
    · split
      · exact ⟨hw.2.1, fun i hi => by rw [hw.2.2.2 i (by omega)]; exact h2 i (by omega), by show (ldS s0 RD k).2.1.length ≤ k + 1; omega, fun e he => by have := h4 e he; omega⟩
      · refine ⟨h1.more (by omega), fun i hi => h2 i (by omega), by simp only [List.length_append, List.length_singleton]; omega, fun e he => ?_⟩
        rcases List.mem_append.1 he with he | he
        · have := h4 e he; omega
        · simp only [List.mem_singleton] at he; subst he; exact Nat.lt_succ_self _
    · split
      · exact ⟨h1.more (by omega), fun i hi => h2 i (by omega), by omega, fun e he => by have := h4 e he; omega⟩
      · exact ⟨hw.2.1, fun i hi => by rw [hw.2.2.2 i (by omega)]; exact h2 i (by omega), by show (ldS s0 RD k).2.1.length ≤ k + 1; omega, fun e he => by have := h4 e he; omega⟩
theorem any_keys {L : List HEnt} {l : List E5} (hl : L.map e5 = l) (b : Bool) (i : List UInt8) : l.any (fun e => e.1 == b && e.2.1 == i) = true ↔ ∃ e ∈ L, (e.isB, e.id) = (b, i) := by
  subst hl
  simp [e5]
theorem sync_works {s : St} {n a : Nat} (h : Works s n a) : St.syncErr s = 0 ∧ Works (St.sync s) n (a + 1) := by
  have he : s.pw.err = 0 := by unfold Pw.err; rw [if_neg (by rw [h.armed]; decide)]
  have hs : St.sync s = St.settle { s with pw := s.pw.act } := by unfold St.sync; rw [if_neg (by simp [h.down]), if_pos he]
  have hp : s.pw.act = { s.pw with acts := s.pw.acts + 1 } := by unfold Pw.act; rw [if_pos h.armed]
  refine ⟨by unfold St.syncErr; rw [if_neg (by simp [h.down]), he], ?_⟩
  rw [hs]
  unfold St.settle
  refine ⟨by show (s.pw.act).down = false; rw [hp]; exact h.down, by show (s.pw.act).armed = 0; rw [hp]; exact h.armed, by show (s.pw.act).acts ≤ _; rw [hp]; have := h.acts; show s.pw.acts + 1 ≤ a + 1; omega, by show (s.pw.act).life < _; rw [hp]; exact h.life, by show (s.slots.map sure1).length = n; rw [List.length_map]; exact h.len⟩

/-- the store behind load -/
def ldEnd (s0 : St) (RD : RdF) (n : Nat) : St := if (ldS s0 RD n).2.2 = true then St.sync (ldS s0 RD n).1 else (ldS s0 RD n).1
def LoadPost (w : World) (q : HvP) (d : HvD) (RD : RdF) (n : Nat) (r : Ending) (w' : World) : Prop :=
  r = .returned (.int .i64 0) ∧ ∃ L, L.map e5 = (ldS d.s RD n).2.1 ∧ HvAt w' q { d with s := ldEnd d.s RD n, L := L, clk := L.length } ∧ Only (q.own []) w w' ∧ ∀ x ∈ q.own L, x ∈ q.own [] ∨ w.heap.size ≤ x
set_option maxHeartbeats 4000000 in
set_option maxRecDepth 100000 in
theorem load_gen (K : List Int) (q : HvP) (d : HvD) (RD : RdF) (n : Nat) (w : World) (h : HvAt w q d) (hd : d.L = []) (hcl : d.clk = 0) (hL : Laid K w) (h0 : 0 ∉ q.own []) (hw : Works d.s n 900000) (hn128 : n ≤ 128)
    (hread : ∀ i, i < n → ∀ W, Laid K W → ReadC RD (St.read d.s i) W) (hRD : ∀ i, i < n → ∀ b id r, RD (St.read d.s i) = some (b, id, r) → id.length = 32 ∧ r.length ≤ 10000 ∧ St.read d.s i ≠ []) :
    Calls Tryd.prog 65 #[.pointer (some ⟨q.p, 0, none⟩)] w (LoadPost w q d RD n) := by
  obtain ⟨s0, L0, pins, clk0, life, dead⟩ := d
  obtain rfl : L0 = [] := hd
  obtain rfl : clk0 = 0 := hcl
  have hl := Lib.hid (len_any q.b q.g s0 w h.sh)
  rw [hw.len] at hl
  have x0 := (hv_cells h).1
  have H := Lib.hid h
  have HL := Lib.hid hL
  have H0 := Lib.hid h0
  have HW := Lib.hid hw
  have HR := Lib.hid hread
  have HRD := Lib.hid hRD
  have n63 : (n : Int) ≤ 9223372036854775807 := by omega
  have hzi := zeroName_info
  have hzo := zeroName_one
  have hzs : zeroName.size = 33 := by kernel_rfl
  have hsub : Hid (∀ k ∈ [q.p, q.b, q.g, q.ma, q.mt], k ∈ q.own []) := Lib.hid (by
    have mm := @own_mem q []
    intro k hk
    simp only [List.mem_cons, List.not_mem_nil, or_false] at hk
    rcases hk with rfl | rfl | rfl | rfl | rfl
    · exact mm.1
    · exact mm.2.2.2.2.1
    · exact mm.2.2.2.2.2.1
    · exact mm.2.1
    · exact mm.2.2.1)
  have hown0 : Hid (∀ L k, k ∈ q.own [] → k ∈ q.own L) := Lib.hid (fun L k hk => by
    simp only [HvP.own, List.map_nil, List.mem_cons, List.not_mem_nil, or_false] at hk ⊢
    rcases hk with h | h | h | h | h | h <;> simp [h])
  have nund := Tryd.underlying127
  clear h hL h0 hw hread hRD
  unfold LoadPost
  go_enter Tryd.func65, Tryd.ntmps65
  go_wp2_with fail
  refine hl.out.mono ?_
  rintro r w1 ⟨rfl, rfl⟩
  clear hl
  go_wp2_with fail
  clear x0
  go_loopw [3, 16] (fun v i wr => ∃ (k : Nat) (L : List HEnt), k ≤ n ∧ v = .bool (ldS s0 RD k).2.2 ∧ i = .int .i64 k ∧ L.map e5 = (ldS s0 RD k).2.1 ∧ HvAt wr q ⟨(ldS s0 RD k).1, L, pins, L.length, life, dead⟩ ∧ Only (q.own []) w wr ∧ ∀ x ∈ q.own L, x ∈ q.own [] ∨ w.heap.size ≤ x) (fun _ i _ => n - (intOf i).toNat)
  case atStart => exact ⟨0, [], by omega, rfl, rfl, rfl, H.out, Only.refl _ _, fun x hx => .inl hx⟩
  case round =>
    obtain ⟨k, L, hk, rfl, rfl, hLe, hat, ho, hx⟩ := hrel
    have HLe := Lib.hid hLe
    have Hat := Lib.hid hat
    have Ho := Lib.hid ho
    have Hx := Lib.hid hx
    have hks := ldS_works (RD := RD) HW.out k hk
    have HWk := Lib.hid hks.1
    have HRk := Lib.hid hks.2.1
    have hlen : L.length ≤ 128 := by have h := congrArg List.length hLe; rw [List.length_map] at h; have := hks.2.2.1; omega
    have HAtk : Hid (∀ e ∈ L, e.at_ < k) := Lib.hid (fun e he => by
      have hm : e5 e ∈ (ldS s0 RD k).2.1 := by rw [← hLe]; exact List.mem_map.2 ⟨e, he, rfl⟩
      exact hks.2.2.2 _ hm)
    clear hLe hat ho hx hks
    by_cases hkn : k < n
    · have j1 : (k : Int) < (n : Int) := by omega
      have hrd := read_any q.b q.g (ldS s0 RD k).1 (k : Int) wr Hat.out.sh
      rw [HRk.out k (Nat.le_refl _), show St.atErr (ldS s0 RD k).1 k = 0 by unfold St.atErr; rw [if_neg (by simp [HWk.out.down]), if_neg (by rw [HWk.out.len]; omega)]] at hrd
      have Hrd := Lib.hid hrd
      have HLr := Lib.hid (HL.out.only Ho.out H0.out)
      have hre := HR.out k hkn wr HLr.out
      unfold ReadC at hre
      have hRDk := Lib.hid (HRD.out k hkn)
      have hst : ∀ o, RD (St.read s0 k) = o → ldS s0 RD (k + 1) = match o with
        | some (b, i, r) => if (ldS s0 RD k).2.1.any (fun e => e.1 == b && e.2.1 == i) then (St.write (ldS s0 RD k).1 k [], (ldS s0 RD k).2.1, true) else ((ldS s0 RD k).1, (ldS s0 RD k).2.1 ++ [(b, i, k, (((ldS s0 RD k).2.1.length + 1 : Nat) : Int), r)], (ldS s0 RD k).2.2)
        | none => if St.read s0 k = [] then ldS s0 RD k else (St.write (ldS s0 RD k).1 k [], (ldS s0 RD k).2.1, true) := fun o ho => by
        subst ho; rfl
      have Hst := Lib.hid hst
      obtain ⟨o, hod⟩ : ∃ o, o = RD (St.read s0 k) := ⟨_, rfl⟩
      rw [← hod] at hre hRDk
      have Ho2 := Lib.hid hod
      obtain ⟨t, ht⟩ : ∃ t, t = St.read s0 k := ⟨_, rfl⟩
      rw [← ht] at hre Hrd hRDk
      have Ht := Lib.hid ht
      obtain ⟨sk, hsk⟩ : ∃ s, s = (ldS s0 RD k).1 := ⟨_, rfl⟩
      obtain ⟨lk, hlk⟩ : ∃ s, s = (ldS s0 RD k).2.1 := ⟨_, rfl⟩
      obtain ⟨vk, hvk⟩ : ∃ s, s = (ldS s0 RD k).2.2 := ⟨_, rfl⟩
      rw [← hsk] at Hat HWk Hst
      rw [← hlk] at HLe Hst
      rw [← hvk] at Hst ⊢
      have Hsk := Lib.hid hsk
      have Hlk := Lib.hid hlk
      have Hvk := Lib.hid hvk
      have Hre := Lib.hid hre
      have x0 := (hv_cells Hat.out).1
      clear hrd hre hst hod ht hsk hlk hvk
      go_wp2_with fail
      refine Hrd.out.mono ?_
      rintro r w2 ⟨rfl, rfl⟩
      clear Hrd
      go_wp2_with fail
      refine Hre.out.mono ?_
      rintro r w3 ⟨rfl, hB3⟩
      have Hat3 := Lib.hid (Hat.out.below hB3)
      have HB3 := Lib.hid (Ho.out.trans (Only.of_below hB3))
      clear hB3 Hre x0
      cases o with
      | none =>
        simp only [rdVal]
        obtain ⟨NV, hNV⟩ : ∃ x, x = zeroName := ⟨_, rfl⟩
        rw [← hNV] at hzi hzo hzs ⊢
        have HNV := Lib.hid hNV
        clear hNV
        go_upto_region 7 with (first | (refine wpList_store_row rfl 127 _ _ rfl w3.heap.size NV rfl rfl 127 _ (heap_alloc_new w3 _) hzi (by rw [HNV.out]; rfl) hzo ?_))
        show Code.wp _ _ _ _ ((w3.alloc (.cells zeroName 127)).setRow w3.heap.size NV)
        obtain ⟨hq_w4, hB_w4⟩ := put_newH w3 zeroName NV 127
        obtain ⟨nb, hp_w4⟩ : ∃ q, q = w3.heap.size := ⟨_, rfl⟩
        obtain ⟨w4, hw_w4⟩ : ∃ y, y = ((w3.alloc (.cells zeroName 127)).setRow w3.heap.size NV) := ⟨_, rfl⟩
        rw [← hw_w4] at hq_w4 hB_w4 ⊢
        rw [← hp_w4] at hq_w4 ⊢
        have HQ_w4 := Lib.hid hq_w4
        have HB_w4 := Lib.hid hB_w4
        have Hp_w4 := Lib.hid hp_w4
        clear hq_w4 hB_w4 hp_w4 hw_w4
        have hH4 : Hid (HvAt w4 q ⟨sk, L, pins, L.length, life, dead⟩) := Lib.hid (Hat3.out.below HB_w4.out)
        have HB4 := Lib.hid (HB3.out.trans (Only.of_below HB_w4.out))
        by_cases hte : t = []
        · have Hs1 : Hid (ldS s0 RD (k + 1) = ldS s0 RD k) := Lib.hid (by rw [Hst.out none Ho2.out.symm]; simp only []; rw [if_pos (by rw [← Ht.out]; exact hte)])
          subst hte
          refine wp_region_held_drew (S := fun w' => Below w4.heap.size w4 w') (by kernel_rfl) ((Below.refl _ _).drew) (fun hH0 => ?_)
          obtain ⟨W0, hW0⟩ : ∃ W, W = w4.drew := ⟨_, rfl⟩
          rw [← hW0] at hH0 ⊢
          clear hW0
          refine wpAnyH_take (i := 0) (v := ?_) rfl (by kernel_rfl) (by kernel_rfl) (by kernel_rfl) (fun _ _ _ h => h) (Or.inl ⟨by kernel_rfl, ?_⟩) hH0 ?_
          rotate_left 1
          · intro w hSw
            go_simp
            try with_reducible rfl
          try simp only [Act.put, List.getElem_toArray, List.getElem_cons_zero, List.getElem_cons_succ, List.setIfInBounds_toArray, List.set_cons_zero, List.set_cons_succ]
          refine wpAnyH_take (i := 1) (v := ?_) rfl (by kernel_rfl) (by kernel_rfl) (by kernel_rfl) (fun _ _ _ h => h) (Or.inl ⟨by kernel_rfl, ?_⟩) hH0 ?_
          rotate_left 1
          · intro w hSw
            go_simp
            try with_reducible rfl
          try simp only [Act.put, List.getElem_toArray, List.getElem_cons_zero, List.getElem_cons_succ, List.setIfInBounds_toArray, List.set_cons_zero, List.set_cons_succ]
          refine wpAnyH_take (i := 2) (v := undef) rfl (by kernel_rfl) (by kernel_rfl) (by kernel_rfl) (fun _ _ _ h => h) (Or.inr ⟨by kernel_rfl, rfl⟩) hH0 ?_
          try simp only [Act.put, List.getElem_toArray, List.getElem_cons_zero, List.getElem_cons_succ, List.setIfInBounds_toArray, List.set_cons_zero, List.set_cons_succ]
          refine wpAnyH_take (i := 3) (v := undef) rfl (by kernel_rfl) (by kernel_rfl) (by kernel_rfl) (fun _ _ _ h => h) (Or.inr ⟨by kernel_rfl, rfl⟩) hH0 ?_
          try simp only [Act.put, List.getElem_toArray, List.getElem_cons_zero, List.getElem_cons_succ, List.setIfInBounds_toArray, List.set_cons_zero, List.set_cons_succ]
          refine wpAnyH_take (i := 4) (v := undef) rfl (by kernel_rfl) (by kernel_rfl) (by kernel_rfl) (fun _ _ _ h => h) (Or.inr ⟨by kernel_rfl, rfl⟩) hH0 ?_
          try simp only [Act.put, List.getElem_toArray, List.getElem_cons_zero, List.getElem_cons_succ, List.setIfInBounds_toArray, List.set_cons_zero, List.set_cons_succ]
          refine wpAnyH_take (i := 5) (v := undef) rfl (by kernel_rfl) (by kernel_rfl) (by kernel_rfl) (fun _ _ _ h => h) (Or.inr ⟨by kernel_rfl, rfl⟩) hH0 ?_
          try simp only [Act.put, List.getElem_toArray, List.getElem_cons_zero, List.getElem_cons_succ, List.setIfInBounds_toArray, List.set_cons_zero, List.set_cons_succ]
          refine wpAnyH_take (i := 6) (v := undef) rfl (by kernel_rfl) (by kernel_rfl) (by kernel_rfl) (fun _ _ _ h => h) (Or.inr ⟨by kernel_rfl, rfl⟩) hH0 ?_
          try simp only [Act.put, List.getElem_toArray, List.getElem_cons_zero, List.getElem_cons_succ, List.setIfInBounds_toArray, List.set_cons_zero, List.set_cons_succ]
          refine wpAnyH_take (i := 7) (v := undef) rfl (by kernel_rfl) (by kernel_rfl) (by kernel_rfl) (fun _ _ _ h => h) (Or.inr ⟨by kernel_rfl, rfl⟩) hH0 ?_
          try simp only [Act.put, List.getElem_toArray, List.getElem_cons_zero, List.getElem_cons_succ, List.setIfInBounds_toArray, List.set_cons_zero, List.set_cons_succ]
          refine wpAnyH_take (i := 8) (v := undef) rfl (by kernel_rfl) (by kernel_rfl) (by kernel_rfl) (fun _ _ _ h => h) (Or.inr ⟨by kernel_rfl, rfl⟩) hH0 ?_
          try simp only [Act.put, List.getElem_toArray, List.getElem_cons_zero, List.getElem_cons_succ, List.setIfInBounds_toArray, List.set_cons_zero, List.set_cons_succ]
          refine wpAnyH_take (i := 9) (v := ?_) rfl (by kernel_rfl) (by kernel_rfl) (by kernel_rfl) (fun _ _ _ h => h) (Or.inl ⟨by kernel_rfl, ?_⟩) hH0 ?_
          rotate_left 1
          · intro w hSw
            go_simp
            try with_reducible rfl
          try simp only [Act.put, List.getElem_toArray, List.getElem_cons_zero, List.getElem_cons_succ, List.setIfInBounds_toArray, List.set_cons_zero, List.set_cons_succ]
          refine wpAnyH_take (i := 10) (v := ?_) rfl (by kernel_rfl) (by kernel_rfl) (by kernel_rfl) (fun _ _ _ h => h) (Or.inl ⟨by kernel_rfl, ?_⟩) hH0 ?_
          rotate_left 1
          · intro w hSw
            go_simp
            try with_reducible rfl
          try simp only [Act.put, List.getElem_toArray, List.getElem_cons_zero, List.getElem_cons_succ, List.setIfInBounds_toArray, List.set_cons_zero, List.set_cons_succ]
          refine wpAnyH_done (by kernel_rfl) ?_ _
          have H6 := Lib.hid (hH4.out.below hH0)
          have HO6 := Lib.hid (HB4.out.trans (Only.of_below hH0))
          obtain ⟨w6, hw6⟩ : ∃ y, y = W0 := ⟨_, rfl⟩
          rw [← hw6] at H6 HO6 ⊢
          clear hH0 hw6
          go_wp2_with fail
          go_roundw
          case rel => exact ⟨k + 1, L, by omega, by rw [Hs1.out, Hvk.out], by go_num, by rw [Hs1.out, ← Hlk.out]; exact HLe.out, by rw [Hs1.out, ← Hsk.out]; exact H6.out, HO6.out, Hx.out⟩
          case measure => simp [intOf]; omega
        · have Hs1 : Hid (ldS s0 RD (k + 1) = (St.write sk k [], lk, true)) := Lib.hid (by rw [Hst.out none Ho2.out.symm]; simp only []; rw [if_neg (by rw [← Ht.out]; exact hte)])
          have hb1 : (t != []) = true := by simpa using hte
          have hb2 : (t == []) = false := by simpa using hte
          clear hte
          refine wp_region_held_drew (S := fun w' => Below w4.heap.size w4 w') (by kernel_rfl) ((Below.refl _ _).drew) (fun hH0 => ?_)
          obtain ⟨W0, hW0⟩ : ∃ W, W = w4.drew := ⟨_, rfl⟩
          rw [← hW0] at hH0 ⊢
          clear hW0
          refine wpAnyH_take (i := 0) (v := ?_) rfl (by kernel_rfl) (by kernel_rfl) (by kernel_rfl) (fun _ _ _ h => h) (Or.inl ⟨by kernel_rfl, ?_⟩) hH0 ?_
          rotate_left 1
          · intro w hSw
            go_simp
            try with_reducible rfl
          try simp only [Act.put, List.getElem_toArray, List.getElem_cons_zero, List.getElem_cons_succ, List.setIfInBounds_toArray, List.set_cons_zero, List.set_cons_succ]
          refine wpAnyH_take (i := 1) (v := ?_) rfl (by kernel_rfl) (by kernel_rfl) (by kernel_rfl) (fun _ _ _ h => h) (Or.inl ⟨by kernel_rfl, ?_⟩) hH0 ?_
          rotate_left 1
          · intro w hSw
            go_simp
            try with_reducible rfl
          try simp only [Act.put, List.getElem_toArray, List.getElem_cons_zero, List.getElem_cons_succ, List.setIfInBounds_toArray, List.set_cons_zero, List.set_cons_succ]
          refine wpAnyH_take (i := 2) (v := undef) rfl (by kernel_rfl) (by kernel_rfl) (by kernel_rfl) (fun _ _ _ h => h) (Or.inr ⟨by kernel_rfl, rfl⟩) hH0 ?_
          try simp only [Act.put, List.getElem_toArray, List.getElem_cons_zero, List.getElem_cons_succ, List.setIfInBounds_toArray, List.set_cons_zero, List.set_cons_succ]
          refine wpAnyH_take (i := 3) (v := undef) rfl (by kernel_rfl) (by kernel_rfl) (by kernel_rfl) (fun _ _ _ h => h) (Or.inr ⟨by kernel_rfl, rfl⟩) hH0 ?_
          try simp only [Act.put, List.getElem_toArray, List.getElem_cons_zero, List.getElem_cons_succ, List.setIfInBounds_toArray, List.set_cons_zero, List.set_cons_succ]
          refine wpAnyH_take (i := 4) (v := undef) rfl (by kernel_rfl) (by kernel_rfl) (by kernel_rfl) (fun _ _ _ h => h) (Or.inr ⟨by kernel_rfl, rfl⟩) hH0 ?_
          try simp only [Act.put, List.getElem_toArray, List.getElem_cons_zero, List.getElem_cons_succ, List.setIfInBounds_toArray, List.set_cons_zero, List.set_cons_succ]
          refine wpAnyH_take (i := 5) (v := undef) rfl (by kernel_rfl) (by kernel_rfl) (by kernel_rfl) (fun _ _ _ h => h) (Or.inr ⟨by kernel_rfl, rfl⟩) hH0 ?_
          try simp only [Act.put, List.getElem_toArray, List.getElem_cons_zero, List.getElem_cons_succ, List.setIfInBounds_toArray, List.set_cons_zero, List.set_cons_succ]
          refine wpAnyH_take (i := 6) (v := undef) rfl (by kernel_rfl) (by kernel_rfl) (by kernel_rfl) (fun _ _ _ h => h) (Or.inr ⟨by kernel_rfl, rfl⟩) hH0 ?_
          try simp only [Act.put, List.getElem_toArray, List.getElem_cons_zero, List.getElem_cons_succ, List.setIfInBounds_toArray, List.set_cons_zero, List.set_cons_succ]
          refine wpAnyH_take (i := 7) (v := undef) rfl (by kernel_rfl) (by kernel_rfl) (by kernel_rfl) (fun _ _ _ h => h) (Or.inr ⟨by kernel_rfl, rfl⟩) hH0 ?_
          try simp only [Act.put, List.getElem_toArray, List.getElem_cons_zero, List.getElem_cons_succ, List.setIfInBounds_toArray, List.set_cons_zero, List.set_cons_succ]
          refine wpAnyH_take (i := 8) (v := undef) rfl (by kernel_rfl) (by kernel_rfl) (by kernel_rfl) (fun _ _ _ h => h) (Or.inr ⟨by kernel_rfl, rfl⟩) hH0 ?_
          try simp only [Act.put, List.getElem_toArray, List.getElem_cons_zero, List.getElem_cons_succ, List.setIfInBounds_toArray, List.set_cons_zero, List.set_cons_succ]
          refine wpAnyH_take (i := 9) (v := ?_) rfl (by kernel_rfl) (by kernel_rfl) (by kernel_rfl) (fun _ _ _ h => h) (Or.inl ⟨by kernel_rfl, ?_⟩) hH0 ?_
          rotate_left 1
          · intro w hSw
            go_simp
            try with_reducible rfl
          try simp only [Act.put, List.getElem_toArray, List.getElem_cons_zero, List.getElem_cons_succ, List.setIfInBounds_toArray, List.set_cons_zero, List.set_cons_succ]
          refine wpAnyH_take (i := 10) (v := ?_) rfl (by kernel_rfl) (by kernel_rfl) (by kernel_rfl) (fun _ _ _ h => h) (Or.inl ⟨by kernel_rfl, ?_⟩) hH0 ?_
          rotate_left 1
          · intro w hSw
            go_simp
            try with_reducible rfl
          try simp only [Act.put, List.getElem_toArray, List.getElem_cons_zero, List.getElem_cons_succ, List.setIfInBounds_toArray, List.set_cons_zero, List.set_cons_succ]
          refine wpAnyH_done (by kernel_rfl) ?_ _
          have H6 := Lib.hid (hH4.out.below hH0)
          have HO6 := Lib.hid (HB4.out.trans (Only.of_below hH0))
          obtain ⟨w6, hw6⟩ : ∃ y, y = W0 := ⟨_, rfl⟩
          rw [← hw6] at H6 HO6 ⊢
          clear hH0 hw6
          have x06 := (hv_cells H6.out).1
          obtain ⟨we, hW2, -, -⟩ := HWk.out.write (k := k) hkn [] (by decide)
          have hwr := write_any q.b q.g sk (k : Int) [] w6 H6.out.sh (HWk.out.fits (by omega)) (by decide)
          rw [we] at hwr
          have Hwr := Lib.hid hwr
          clear we hW2 hwr
          go_wp2_with fail
          refine Hwr.out.mono ?_
          rintro r w7 ⟨rfl, hsh, hO7⟩
          have H7 := Lib.hid (hv_shelf H6.out hO7 hsh)
          have HO7 := Lib.hid (HO6.out.trans (hO7.mono (fun k hk => hsub.out k (by simp at hk ⊢; omega))))
          clear hsh hO7 Hwr x06
          go_wp2_with fail
          go_roundw
          case rel => exact ⟨k + 1, L, by omega, by rw [Hs1.out], by go_num, by rw [Hs1.out]; exact HLe.out, by rw [Hs1.out]; exact H7.out, HO7.out, Hx.out⟩
          case measure => simp [intOf]; omega
      | some v =>
        obtain ⟨vb, vi, vr⟩ := v
        obtain ⟨hvi, hvr, htne⟩ := hRDk.out vb vi vr rfl
        have hb1 : (t != []) = true := by simpa using htne
        have hb2 : (t == []) = false := by simpa using htne
        have Hvi := Lib.hid hvi
        simp only [rdVal]
        obtain ⟨NV, hNV⟩ : ∃ x, x = (Value.bool vb :: byV vi).toArray := ⟨_, rfl⟩
        rw [← hNV]
        have hNs : NV.size = 33 := by rw [hNV]; simp [byV_length, hvi]
        have HNV := Lib.hid hNV
        have ndixA : (Tryd.prog.info? 127).map (·.size) = some NV.size := by rw [name_info, hNs]
        have hNone : NV.all (·.oneCell') = true := by rw [HNV.out, List.all_toArray, List.all_cons, byV_one]; rfl
        clear hNV htne hvi
        go_upto_region 7 with (first | (refine wpList_store_row rfl 127 _ _ rfl w3.heap.size NV rfl rfl 127 _ (heap_alloc_new w3 _) ndixA (by rw [hNs]; rfl) hNone ?_))
        show Code.wp _ _ _ _ ((w3.alloc (.cells zeroName 127)).setRow w3.heap.size NV)
        obtain ⟨hq_w4, hB_w4⟩ := put_newH w3 zeroName NV 127
        obtain ⟨nb, hp_w4⟩ : ∃ q, q = w3.heap.size := ⟨_, rfl⟩
        obtain ⟨w4, hw_w4⟩ : ∃ y, y = ((w3.alloc (.cells zeroName 127)).setRow w3.heap.size NV) := ⟨_, rfl⟩
        rw [← hw_w4] at hq_w4 hB_w4 ⊢
        rw [← hp_w4] at hq_w4 ⊢
        have HQ_w4 := Lib.hid hq_w4
        have HB_w4 := Lib.hid hB_w4
        have Hp_w4 := Lib.hid hp_w4
        clear hq_w4 hB_w4 hp_w4 hw_w4
        have HB4 := Lib.hid (HB3.out.trans (Only.of_below HB_w4.out))
        have hH4 : Hid (HvAt w4 q ⟨sk, L, pins, L.length, life, dead⟩) := Lib.hid (Hat3.out.below HB_w4.out)
        have x1 := (hv_cells hH4.out).2.1
        have lp : q.p < w4.heap.size := heap_lt hH4.out.hp
        have r4 : w4.rangeAt nb 0 NV.toList := fun k v hv => by rw [Lib.cell_of_heap HQ_w4.out, Nat.zero_add]; simpa using hv
        have l4 : nb < w4.heap.size := heap_lt HQ_w4.out
        have ndix : (Tryd.prog.info? 127).map (·.size) = some NV.toList.length := by rw [ndixA]; simp
        by_cases hey : ∃ e ∈ L, (e.isB, e.id) = (vb, vi)
        · have Hs1 : Hid (ldS s0 RD (k + 1) = (St.write sk k [], lk, true)) := Lib.hid (by rw [Hst.out _ Ho2.out.symm]; simp only []; rw [if_pos ((any_keys HLe.out vb vi).2 hey)])
          obtain ⟨ee, heL, hee⟩ := hey
          have hlook := Lib.hid (fun W (hW : Below w4.heap.size w4 W) => look_yes (hH4.out.below hW) heL)
          rw [hee] at hlook
          rw [show nameV (vb, vi) = .agg NV from by rw [HNV.out]; rfl] at hlook
          obtain ⟨bk, hbk⟩ : ∃ x, x = ee.blk := ⟨_, rfl⟩
          rw [← hbk] at hlook
          clear heL hee hbk
          refine wp_region_held_drew (S := fun w' => Below w4.heap.size w4 w') (by kernel_rfl) ((Below.refl _ _).drew) (fun hH0 => ?_)
          obtain ⟨W0, hW0⟩ : ∃ W, W = w4.drew := ⟨_, rfl⟩
          rw [← hW0] at hH0 ⊢
          clear hW0
          refine wpAnyH_take (i := 0) (v := ?_) rfl (by kernel_rfl) (by kernel_rfl) (by kernel_rfl) (fun _ _ _ h => h) (Or.inl ⟨by kernel_rfl, ?_⟩) hH0 ?_
          rotate_left 1
          · intro w hSw
            go_simp
            try with_reducible rfl
          try simp only [Act.put, List.getElem_toArray, List.getElem_cons_zero, List.getElem_cons_succ, List.setIfInBounds_toArray, List.set_cons_zero, List.set_cons_succ]
          refine wpAnyH_take (i := 1) (v := ?_) rfl (by kernel_rfl) (by kernel_rfl) (by kernel_rfl) (fun _ _ _ h => h) (Or.inl ⟨by kernel_rfl, ?_⟩) hH0 ?_
          rotate_left 1
          · intro w hSw
            go_simp
            try with_reducible rfl
          try simp only [Act.put, List.getElem_toArray, List.getElem_cons_zero, List.getElem_cons_succ, List.setIfInBounds_toArray, List.set_cons_zero, List.set_cons_succ]
          refine wpAnyH_take (i := 2) (v := ?_) rfl (by kernel_rfl) (by kernel_rfl) (by kernel_rfl) (fun _ _ _ h => h) (Or.inl ⟨by kernel_rfl, ?_⟩) hH0 ?_
          rotate_left 1
          · intro w hSw
            go_simp
            try with_reducible rfl
          try simp only [Act.put, List.getElem_toArray, List.getElem_cons_zero, List.getElem_cons_succ, List.setIfInBounds_toArray, List.set_cons_zero, List.set_cons_succ]
          refine wpAnyH_take (i := 3) (v := ?_) rfl (by kernel_rfl) (by kernel_rfl) (by kernel_rfl) (fun _ _ _ h => h) (Or.inl ⟨by kernel_rfl, ?_⟩) hH0 ?_
          rotate_left 1
          · intro w hSw
            go_simp
            try with_reducible rfl
          try simp only [Act.put, List.getElem_toArray, List.getElem_cons_zero, List.getElem_cons_succ, List.setIfInBounds_toArray, List.set_cons_zero, List.set_cons_succ]
          refine wpAnyH_take (i := 4) (v := ?_) rfl (by kernel_rfl) (by kernel_rfl) (by kernel_rfl) (fun _ _ _ h => h) (Or.inl ⟨by kernel_rfl, ?_⟩) hH0 ?_
          rotate_left 1
          · intro w hSw
            go_simp
            try with_reducible rfl
          try simp only [Act.put, List.getElem_toArray, List.getElem_cons_zero, List.getElem_cons_succ, List.setIfInBounds_toArray, List.set_cons_zero, List.set_cons_succ]
          refine wpAnyH_take (i := 5) (v := ?_) rfl (by kernel_rfl) (by kernel_rfl) (by kernel_rfl) (fun _ _ _ h => h) (Or.inl ⟨by kernel_rfl, ?_⟩) hH0 ?_
          rotate_left 1
          · intro w hSw
            have f0 := (hSw.cell (p := ⟨q.p, 1, none⟩) lp).trans x1
            go_simp
            try with_reducible rfl
          try simp only [Act.put, List.getElem_toArray, List.getElem_cons_zero, List.getElem_cons_succ, List.setIfInBounds_toArray, List.set_cons_zero, List.set_cons_succ]
          refine wpAnyH_take (i := 6) (v := _) rfl (by kernel_rfl) (by kernel_rfl) (by kernel_rfl) (fun _ _ _ h => h) (yieldsIf_load_mid (by kernel_rfl) _ _ rfl _ _ rfl NV.toList _ (fun W hW => range_below r4 hW l4) nund rfl ndix) hH0 ?_
          try simp only [Act.put, List.getElem_toArray, List.getElem_cons_zero, List.getElem_cons_succ, List.setIfInBounds_toArray, List.set_cons_zero, List.set_cons_succ]
          refine wpAnyH_take (i := 7) (v := _) rfl (by kernel_rfl) (by kernel_rfl) (by kernel_rfl) (fun _ _ _ h => h) (yieldsIf_lookup (by kernel_rfl) 116 (.tmp 40) (.tmp 41) rfl (.pointer (some ⟨bk, 0, none⟩)) (fun W hW => hlook.out W hW)) hH0 ?_
          try simp only [Act.put, List.getElem_toArray, List.getElem_cons_zero, List.getElem_cons_succ, List.setIfInBounds_toArray, List.set_cons_zero, List.set_cons_succ]
          refine wpAnyH_take (i := 8) (v := ?_) rfl (by kernel_rfl) (by kernel_rfl) (by kernel_rfl) (fun _ _ _ h => h) (Or.inl ⟨by kernel_rfl, ?_⟩) hH0 ?_
          rotate_left 1
          · intro w hSw
            go_simp
            try with_reducible rfl
          try simp only [Act.put, List.getElem_toArray, List.getElem_cons_zero, List.getElem_cons_succ, List.setIfInBounds_toArray, List.set_cons_zero, List.set_cons_succ]
          refine wpAnyH_take (i := 9) (v := ?_) rfl (by kernel_rfl) (by kernel_rfl) (by kernel_rfl) (fun _ _ _ h => h) (Or.inl ⟨by kernel_rfl, ?_⟩) hH0 ?_
          rotate_left 1
          · intro w hSw
            go_simp
            try with_reducible rfl
          try simp only [Act.put, List.getElem_toArray, List.getElem_cons_zero, List.getElem_cons_succ, List.setIfInBounds_toArray, List.set_cons_zero, List.set_cons_succ]
          refine wpAnyH_take (i := 10) (v := ?_) rfl (by kernel_rfl) (by kernel_rfl) (by kernel_rfl) (fun _ _ _ h => h) (Or.inl ⟨by kernel_rfl, ?_⟩) hH0 ?_
          rotate_left 1
          · intro w hSw
            go_simp
            try with_reducible rfl
          try simp only [Act.put, List.getElem_toArray, List.getElem_cons_zero, List.getElem_cons_succ, List.setIfInBounds_toArray, List.set_cons_zero, List.set_cons_succ]
          refine wpAnyH_done (by kernel_rfl) ?_ _
          clear x1 r4
          have H6 := Lib.hid (hH4.out.below hH0)
          have HO6 := Lib.hid (HB4.out.trans (Only.of_below hH0))
          obtain ⟨w6, hw6⟩ : ∃ y, y = W0 := ⟨_, rfl⟩
          rw [← hw6] at H6 HO6 ⊢
          clear hH0 hw6
          have x06 := (hv_cells H6.out).1
          obtain ⟨we, hW2, -, -⟩ := HWk.out.write (k := k) hkn [] (by decide)
          have hwr := write_any q.b q.g sk (k : Int) [] w6 H6.out.sh (HWk.out.fits (by omega)) (by decide)
          rw [we] at hwr
          have Hwr := Lib.hid hwr
          clear we hW2 hwr
          go_wp2_with fail
          refine Hwr.out.mono ?_
          rintro r w7 ⟨rfl, hsh, hO7⟩
          have H7 := Lib.hid (hv_shelf H6.out hO7 hsh)
          have HO7 := Lib.hid (HO6.out.trans (hO7.mono (fun k hk => hsub.out k (by simp at hk ⊢; omega))))
          clear hsh hO7 Hwr x06
          go_wp2_with fail
          go_roundw
          case rel => exact ⟨k + 1, L, by omega, by rw [Hs1.out], by go_num, by rw [Hs1.out]; exact HLe.out, by rw [Hs1.out]; exact H7.out, HO7.out, Hx.out⟩
          case measure => simp [intOf]; omega
        · have Hs1 : Hid (ldS s0 RD (k + 1) = (sk, lk ++ [(vb, vi, k, ((lk.length + 1 : Nat) : Int), vr)], vk)) := Lib.hid (by rw [Hst.out _ Ho2.out.symm]; simp only []; rw [if_neg (fun h => hey ((any_keys HLe.out vb vi).1 h))])
          have Hne : Hid (∀ e ∈ L, (e.isB, e.id) ≠ (vb, vi)) := Lib.hid (fun e he h => hey ⟨e, he, h⟩)
          have hlook := Lib.hid (fun W (hW : Below w4.heap.size w4 W) => look_no (hH4.out.below hW) Hvi.out Hne.out)
          rw [show nameV (vb, vi) = .agg NV from by rw [HNV.out]; rfl] at hlook
          clear hey
          refine wp_region_held_drew (S := fun w' => Below w4.heap.size w4 w') (by kernel_rfl) ((Below.refl _ _).drew) (fun hH0 => ?_)
          obtain ⟨W0, hW0⟩ : ∃ W, W = w4.drew := ⟨_, rfl⟩
          rw [← hW0] at hH0 ⊢
          clear hW0
          refine wpAnyH_take (i := 0) (v := ?_) rfl (by kernel_rfl) (by kernel_rfl) (by kernel_rfl) (fun _ _ _ h => h) (Or.inl ⟨by kernel_rfl, ?_⟩) hH0 ?_
          rotate_left 1
          · intro w hSw
            go_simp
            try with_reducible rfl
          try simp only [Act.put, List.getElem_toArray, List.getElem_cons_zero, List.getElem_cons_succ, List.setIfInBounds_toArray, List.set_cons_zero, List.set_cons_succ]
          refine wpAnyH_take (i := 1) (v := ?_) rfl (by kernel_rfl) (by kernel_rfl) (by kernel_rfl) (fun _ _ _ h => h) (Or.inl ⟨by kernel_rfl, ?_⟩) hH0 ?_
          rotate_left 1
          · intro w hSw
            go_simp
            try with_reducible rfl
          try simp only [Act.put, List.getElem_toArray, List.getElem_cons_zero, List.getElem_cons_succ, List.setIfInBounds_toArray, List.set_cons_zero, List.set_cons_succ]
          refine wpAnyH_take (i := 2) (v := ?_) rfl (by kernel_rfl) (by kernel_rfl) (by kernel_rfl) (fun _ _ _ h => h) (Or.inl ⟨by kernel_rfl, ?_⟩) hH0 ?_
          rotate_left 1
          · intro w hSw
            go_simp
            try with_reducible rfl
          try simp only [Act.put, List.getElem_toArray, List.getElem_cons_zero, List.getElem_cons_succ, List.setIfInBounds_toArray, List.set_cons_zero, List.set_cons_succ]
          refine wpAnyH_take (i := 3) (v := ?_) rfl (by kernel_rfl) (by kernel_rfl) (by kernel_rfl) (fun _ _ _ h => h) (Or.inl ⟨by kernel_rfl, ?_⟩) hH0 ?_
          rotate_left 1
          · intro w hSw
            go_simp
            try with_reducible rfl
          try simp only [Act.put, List.getElem_toArray, List.getElem_cons_zero, List.getElem_cons_succ, List.setIfInBounds_toArray, List.set_cons_zero, List.set_cons_succ]
          refine wpAnyH_take (i := 4) (v := ?_) rfl (by kernel_rfl) (by kernel_rfl) (by kernel_rfl) (fun _ _ _ h => h) (Or.inl ⟨by kernel_rfl, ?_⟩) hH0 ?_
          rotate_left 1
          · intro w hSw
            go_simp
            try with_reducible rfl
          try simp only [Act.put, List.getElem_toArray, List.getElem_cons_zero, List.getElem_cons_succ, List.setIfInBounds_toArray, List.set_cons_zero, List.set_cons_succ]
          refine wpAnyH_take (i := 5) (v := ?_) rfl (by kernel_rfl) (by kernel_rfl) (by kernel_rfl) (fun _ _ _ h => h) (Or.inl ⟨by kernel_rfl, ?_⟩) hH0 ?_
          rotate_left 1
          · intro w hSw
            have f0 := (hSw.cell (p := ⟨q.p, 1, none⟩) lp).trans x1
            go_simp
            try with_reducible rfl
          try simp only [Act.put, List.getElem_toArray, List.getElem_cons_zero, List.getElem_cons_succ, List.setIfInBounds_toArray, List.set_cons_zero, List.set_cons_succ]
          refine wpAnyH_take (i := 6) (v := _) rfl (by kernel_rfl) (by kernel_rfl) (by kernel_rfl) (fun _ _ _ h => h) (yieldsIf_load_mid (by kernel_rfl) _ _ rfl _ _ rfl NV.toList _ (fun W hW => range_below r4 hW l4) nund rfl ndix) hH0 ?_
          try simp only [Act.put, List.getElem_toArray, List.getElem_cons_zero, List.getElem_cons_succ, List.setIfInBounds_toArray, List.set_cons_zero, List.set_cons_succ]
          refine wpAnyH_take (i := 7) (v := _) rfl (by kernel_rfl) (by kernel_rfl) (by kernel_rfl) (fun _ _ _ h => h) (yieldsIf_lookup (by kernel_rfl) 116 (.tmp 40) (.tmp 41) rfl (.pointer none) (fun W hW => hlook.out W hW)) hH0 ?_
          try simp only [Act.put, List.getElem_toArray, List.getElem_cons_zero, List.getElem_cons_succ, List.setIfInBounds_toArray, List.set_cons_zero, List.set_cons_succ]
          refine wpAnyH_take (i := 8) (v := ?_) rfl (by kernel_rfl) (by kernel_rfl) (by kernel_rfl) (fun _ _ _ h => h) (Or.inl ⟨by kernel_rfl, ?_⟩) hH0 ?_
          rotate_left 1
          · intro w hSw
            go_simp
            try with_reducible rfl
          try simp only [Act.put, List.getElem_toArray, List.getElem_cons_zero, List.getElem_cons_succ, List.setIfInBounds_toArray, List.set_cons_zero, List.set_cons_succ]
          refine wpAnyH_take (i := 9) (v := ?_) rfl (by kernel_rfl) (by kernel_rfl) (by kernel_rfl) (fun _ _ _ h => h) (Or.inl ⟨by kernel_rfl, ?_⟩) hH0 ?_
          rotate_left 1
          · intro w hSw
            go_simp
            try with_reducible rfl
          try simp only [Act.put, List.getElem_toArray, List.getElem_cons_zero, List.getElem_cons_succ, List.setIfInBounds_toArray, List.set_cons_zero, List.set_cons_succ]
          refine wpAnyH_take (i := 10) (v := ?_) rfl (by kernel_rfl) (by kernel_rfl) (by kernel_rfl) (fun _ _ _ h => h) (Or.inl ⟨by kernel_rfl, ?_⟩) hH0 ?_
          rotate_left 1
          · intro w hSw
            go_simp
            try with_reducible rfl
          try simp only [Act.put, List.getElem_toArray, List.getElem_cons_zero, List.getElem_cons_succ, List.setIfInBounds_toArray, List.set_cons_zero, List.set_cons_succ]
          refine wpAnyH_done (by kernel_rfl) ?_ _
          have H6 := Lib.hid (hH4.out.below hH0)
          have HO6 := Lib.hid (HB4.out.trans (Only.of_below hH0))
          have hq6 := below_keep hH0 HQ_w4.out
          obtain ⟨w6, hw6⟩ : ∃ y, y = W0 := ⟨_, rfl⟩
          rw [← hw6] at H6 HO6 hq6 ⊢
          have HQ6 := Lib.hid hq6
          clear hH0 hw6 x1 r4 hq6
          have hadd := Lib.hid (hadd_any q ⟨sk, L, pins, L.length, life, dead⟩ vb vi k vr w6 H6.out Hvi.out (by omega) hvr (by show L.length < 1000000; omega) Hne.out (fun e he => by have := HAtk.out e he; omega))
          rw [← HNV.out] at hadd
          go_wp2_with (refine wpList_load_row rfl 127 _ rfl nb rfl 127 NV (0, 0) _ HQ6.out nund rfl ndixA ?_)
          refine hadd.out.mono ?_
          rintro r w7 ⟨rfl, blk, hbl, h7, hO7⟩
          have H7 := Lib.hid h7
          have HO7 := Lib.hid (HO6.out.trans (hO7.mono (fun k hk => hsub.out k (by simp at hk ⊢; omega))))
          have Hbl : Hid (w.heap.size ≤ blk) := Lib.hid (Nat.le_trans HO6.out.size hbl)
          have hll : L.length = lk.length := by have h := congrArg List.length HLe.out; rw [List.length_map] at h; exact h
          have Hll := Lib.hid hll
          clear h7 hO7 hbl hadd hll
          go_wp2_with fail
          go_roundw
          case rel =>
            refine ⟨k + 1, L ++ [⟨vb, vi, k, ((L.length + 1 : Nat) : Int), vr, blk⟩], by omega, by rw [Hs1.out], by go_num, ?_, ?_, HO7.out, fun x hx => ?_⟩
            · rw [Hs1.out, List.map_append, HLe.out, ← Hll.out]; rfl
            · rw [Hs1.out]; have h := H7.out; simp only [List.length_append, List.length_singleton]; exact h
            · simp only [HvP.own, List.map_append, List.mem_cons, List.mem_append, List.map_cons, List.map_nil, List.not_mem_nil, or_false] at hx
              have hxx := Hx.out x
              simp only [HvP.own, List.mem_cons, List.map_nil, List.not_mem_nil, or_false] at hxx ⊢
              rcases hx with h | h | h | h | h | h | h | h
              · exact hxx (by simp [h])
              · exact hxx (by simp [h])
              · exact hxx (by simp [h])
              · exact hxx (by simp [h])
              · exact hxx (by simp [h])
              · exact hxx (by simp [h])
              · exact hxx (by simp only [h, or_true])
              · right; rw [h]; exact Hbl.out
          case measure => simp [intOf]; omega
    · obtain rfl : n = k := by omega
      have j1 : ¬ (n : Int) < (n : Int) := by omega
      have hend : ldEnd s0 RD n = if (ldS s0 RD n).2.2 = true then St.sync (ldS s0 RD n).1 else (ldS s0 RD n).1 := rfl
      have Hend := Lib.hid hend
      have hsy := sync_works HWk.out
      have hfit := HWk.out.fits (by omega)
      have hsn := sync_any q.b q.g (ldS s0 RD n).1 wr Hat.out.sh hfit
      rw [hsy.1] at hsn
      have Hsn := Lib.hid hsn
      have x0 := (hv_cells Hat.out).1
      cases hv : (ldS s0 RD n).2.2 with
      | true =>
        rw [hv, if_pos rfl] at hend
        have Hend2 := Lib.hid hend
        clear hend hsy hfit hsn hv Hend
        go_wp2_with fail
        refine Hsn.out.mono ?_
        rintro r w2 ⟨rfl, hsh, hO⟩
        have H2 := Lib.hid (hv_shelf Hat.out hO hsh)
        have HO := Lib.hid hO
        clear hsh hO Hsn x0
        go_wp2_with fail
        go_ret
        exact ⟨rfl, L, HLe.out, by rw [Hend2.out]; exact H2.out, Ho.out.trans (HO.out.mono (fun k hk => hsub.out k (by simp at hk ⊢; omega))), Hx.out⟩
      | false =>
        rw [hv, if_neg (by decide)] at hend
        have Hend2 := Lib.hid hend
        clear hend hsy hfit hsn hv Hend Hsn x0
        go_wp2_with fail
        go_ret
        exact ⟨rfl, L, HLe.out, by rw [Hend2.out]; exact Hat.out, Ho.out, Hx.out⟩
end Go.Proofs.YteihfoacdocgkaaDoor
