/-
  Layer 5: PutBlob into a store of blobs, in words of its line.
-/
import Derived.Test.YteihfoacdocgkaaDoorHwC
set_option linter.unusedVariables false
set_option linter.unusedSimpArgs false
namespace Go.Proofs.YteihfoacdocgkaaDoor
open Go.RowKit Pl Sh
attribute [local go_sem] Lb.ba_get Lb.ba_cut Lb.ba_add Lb.ba_size Lb.take_rest

theorem nodup_subset_length : ∀ {l1 l2 : List Nat}, l1.Nodup → (∀ x ∈ l1, x ∈ l2) → l1.length ≤ l2.length
  | [], l2, _, _ => Nat.zero_le _
  | a :: l, l2, h, hs => by
    obtain ⟨h1, h2⟩ := List.nodup_cons.1 h
    have ha : a ∈ l2 := hs a (by simp)
    have := nodup_subset_length (l2 := l2.erase a) h2 (fun x hx => (List.mem_erase_of_ne (fun e : x = a => h1 (by rw [← e]; exact hx))).2 (hs x (by simp [hx])))
    rw [List.length_erase_of_mem ha] at this
    have hp : 0 < l2.length := List.length_pos_of_mem ha
    simp only [List.length_cons]
    omega
theorem first_free (L : List HEnt) : ∀ n, (∀ i, i < n → ∃ e ∈ L, e.at_ = i) ∨ ∃ m, m < n ∧ (∀ e ∈ L, e.at_ ≠ m) ∧ ∀ i, i < m → ∃ e ∈ L, e.at_ = i
  | 0 => .inl (fun i hi => by omega)
  | n + 1 => by
    rcases first_free L n with h | ⟨m, h1, h2, h3⟩
    · by_cases hn : ∃ e ∈ L, e.at_ = n
      · left; intro i hi
        by_cases e : i = n
        · rw [e]; exact hn
        · exact h i (by omega)
      · exact .inr ⟨n, by omega, fun e he h1 => hn ⟨e, he, h1⟩, h⟩
    · exact .inr ⟨m, by omega, h2, h3⟩
theorem ats_nodup {w : World} {q : HvP} {d : HvD} (h : HvAt w q d) : (d.L.map (·.at_)).Nodup := by
  have := h.taken.apart int_fam
  unfold slotsOf at this
  rw [List.pairwise_map] at this
  rw [List.Nodup, List.pairwise_map]
  exact this
theorem full_iff {w : World} {q : HvP} {d : HvD} {n : Nat} (h : HvAt w q d) (hlt : ∀ e ∈ d.L, e.at_ < n) : (∀ i, i < n → ∃ e ∈ d.L, e.at_ = i) ↔ n ≤ d.L.length := by
  constructor
  · intro hf
    have := nodup_subset_length (l1 := List.range n) (l2 := d.L.map (·.at_)) List.nodup_range (fun x hx => by obtain ⟨e, he, h1⟩ := hf x (List.mem_range.1 hx); exact List.mem_map.2 ⟨e, he, h1⟩)
    simpa using this
  · intro hn i hi
    refine Classical.byContradiction fun hno => ?_
    have := nodup_subset_length (l1 := i :: d.L.map (·.at_)) (l2 := List.range n) (List.nodup_cons.2 ⟨fun hm => by obtain ⟨e, he, h1⟩ := List.mem_map.1 hm; exact hno ⟨e, he, h1⟩, ats_nodup h⟩) (fun x hx => by
      rcases List.mem_cons.1 hx with rfl | hx
      · exact List.mem_range.2 hi
      · obtain ⟨e, he, rfl⟩ := List.mem_map.1 hx; exact List.mem_range.2 (hlt e he))
    simp at this
    omega
theorem sync_read {s : St} {n a : Nat} (h : Works s n a) (i : Nat) : St.read (St.sync s) i = St.read s i := by
  have he : s.pw.err = 0 := by unfold Pw.err; rw [if_neg (by rw [h.armed]; decide)]
  have hs : St.sync s = St.settle { s with pw := s.pw.act } := by unfold St.sync; rw [if_neg (by simp [h.down]), if_pos he]
  have hp : s.pw.act = { s.pw with acts := s.pw.acts + 1 } := by unfold Pw.act; rw [if_pos h.armed]
  have hd : (St.sync s).pw.down = s.pw.down := by rw [hs]; show (s.pw.act).down = _; rw [hp]
  have hl : (St.sync s).slots = s.slots.map sure1 := by rw [hs]; rfl
  unfold St.read St.atErr
  rw [hd, hl, List.length_map, List.getElem?_map]
  cases hq : s.slots[(i : Int).toNat]? with
  | none => rfl
  | some x => rfl
theorem write_life {s : St} {n a : Nat} (h : Works s n a) {k : Nat} (hk : k < n) (t : List UInt8) (ht : t.length ≤ 640) : (St.write s k t).pw.life = s.pw.life := by
  obtain ⟨-, f2, -⟩ := write_facts s k t h.down h.armed (by rw [h.len]; exact hk) ht
  rw [f2]
theorem sync_life {s : St} {n a : Nat} (h : Works s n a) : (St.sync s).pw.life = s.pw.life := by
  have he : s.pw.err = 0 := by unfold Pw.err; rw [if_neg (by rw [h.armed]; decide)]
  have hs : St.sync s = St.settle { s with pw := s.pw.act } := by unfold St.sync; rw [if_neg (by simp [h.down]), if_pos he]
  have hp : s.pw.act = { s.pw with acts := s.pw.acts + 1 } := by unfold Pw.act; rw [if_pos h.armed]
  rw [hs]
  show (s.pw.act).life = _
  rw [hp]
theorem textS_len (K : List Int) {b : List UInt8} (hb : b.length ≤ 512) : (textS K (blobRowS b)).length ≤ 640 := by unfold textS; rw [List.length_append, hashB_length]; have := blobRow_len b hb; omega
def PutBoxPost (K : List Int) (q : HvP) (n k : Nat) (line pins : List (List UInt8)) (b : List UInt8) (S : List Nat) (w : World) (r : Ending) (w' : World) : Prop :=
  r = .returned (.tuple #[.agg (digV (if (putA K n pins line b).1 = 0 then hashB K b else List.replicate 32 0)), .int .i64 (putA K n pins line b).1]) ∧ ∃ S', BoxAt K w' q n k (putA K n pins line b).2 pins S' ∧ Only S w w' ∧ ∀ x ∈ S', x ∈ S ∨ w.heap.size ≤ x
/-- a blob that is not there is put where room answers slot m -/
theorem box_put_at {K : List Int} {w : World} {q : HvP} {n k m : Nat} {line line2 pins : List (List UInt8)} {S : List Nat} {b : List UInt8} {d d2 : HvD} (h1 : HvAt w q d) (h2 : BSt K d n (k + 2) line) (h4 : ∀ x ∈ q.own d.L, x ∈ S) (h5 : ∀ x ∈ S, x < w.heap.size) (hL : Laid K w) (h0 : 0 ∉ S) (hn : n ≤ 128) (hb : b.length ≤ 512)
    (hne : ∀ e ∈ d.L, (e.isB, e.id) ≠ (true, hashB K b)) (hA : putA K n pins line b = (0, line2 ++ [b])) (hs2 : ∀ x ∈ d2.L, x ∈ d.L) (hB2 : BSt K d2 n (k + 1) line2) (hp2 : d2.pins = pins) (hm : m < n) (hfree : ∀ e ∈ d2.L, e.at_ ≠ m)
    (hroom : ∀ W, HvAt W q d → Calls Tryd.prog 126 #[.pointer (some ⟨q.p, 0, none⟩)] W fun e w' => e = .returned (.tuple #[.int .i64 m, .int .i64 0]) ∧ HvAt w' q d2 ∧ Only (q.own d.L) W w') :
    Calls Tryd.prog 23 #[.pointer (some ⟨q.p, 0, none⟩), .string ⟨b.toArray⟩] w (PutBoxPost K q n k line pins b S w) := by
  have h0o : 0 ∉ q.own d.L := fun h => h0 (h4 0 h)
  have hw := hB2.works.write hm (textS K (blobRowS b)) (textS_len K hb)
  have hwl := write_life hB2.works hm (textS K (blobRowS b)) (textS_len K hb)
  have hc := gpb_new K q d b (fun er d' => er = 0 ∧ ∃ blk, d' = { d2 with s := St.write d2.s m (textS K (blobRowS b)), L := d2.L ++ [⟨true, hashB K b, m, ((d2.clk + 1 : Nat) : Int), blobRowS b, blk⟩], clk := d2.clk + 1 }) w h1 hL h0o h2.ready hb hne (fun W hW hLW => by
    have hg := hput_gen K q d d2 true (hashB K b) (blobRowS b) m W hW hLW h0o hroom (by omega) hfree (hashB_length _ _) (blobRow_len b hb) (fun e he => hne e (hs2 e he)) (by have := hB2.clk; omega) (hB2.works.fits (by omega))
    refine hg.mono ?_
    rintro r w' ⟨hO, h | ⟨-, rfl, blk, hbk, ha⟩⟩
    · exact absurd hw.1 h.1
    · refine ⟨0, _, rfl, ⟨rfl, blk, rfl⟩, ha, hO, fun x hx => ?_⟩
      simp only [HvP.own, List.map_append, List.mem_cons, List.mem_append, List.map_cons, List.map_nil, List.not_mem_nil, or_false, List.mem_map] at hx ⊢
      rcases hx with h | h | h | h | h | h | ⟨e, he, h⟩ | h
      · simp [h]
      · simp [h]
      · simp [h]
      · simp [h]
      · simp [h]
      · simp [h]
      · exact .inl (.inr (.inr (.inr (.inr (.inr (.inr ⟨e, hs2 e he, h⟩))))))
      · right; rw [h]; exact hbk)
  refine hc.mono ?_
  rintro r w' ⟨er, d', rfl, ⟨rfl, blk, rfl⟩, ha, hO, hx⟩
  unfold PutBoxPost
  rw [hA]
  refine ⟨rfl, _ ++ S, ⟨_, ha, bst_add hB2 hb hm (hw.2.1.more (by have := hB2.room; omega)) (by rw [hwl]; exact hB2.life) hw.2.2.1 (fun e he => hw.2.2.2 e.at_ (hfree e he)) (fun e he h => hne e (hs2 e he) (by rw [(hB2.ents e he).blob.2.1, h])), hp2, fun x hxx => List.mem_append_left _ hxx, fun x hxx => ?_⟩, hO.mono h4, fun x hxx => ?_⟩
  · rcases List.mem_append.1 hxx with h | h
    · exact ha.lt x h
    · exact Nat.lt_of_lt_of_le (h5 x h) hO.size
  · rcases List.mem_append.1 hxx with h | h
    · rcases hx x h with h | h
      · exact .inl (h4 x h)
      · exact .inr h
    · exact .inl h

/-- what the line's first text that is not pinned says of the entries -/
theorem line_first {K : List Int} {d : HvD} {n k : Nat} {line : List (List UInt8)} {x : List UInt8} (h : BSt K d n k line) (hf : line.find? (fun y => decide (hashB K y ∉ d.pins)) = some x) :
    ∃ (j : Nat) (e : HEnt), d.L[j]? = some e ∧ blobE e = x ∧ e.id ∉ d.pins ∧ (∀ y ∈ d.L, y.id ∈ d.pins ∨ e.used ≤ y.used) ∧ ∀ y ∈ d.L, y.used = e.used → y = e := by
  obtain ⟨Ls, h1, h2, h3⟩ := h.line
  have hu := pw_used h1 h2
  obtain ⟨hx, as_, bs, hl, has⟩ := List.find?_eq_some_iff_append.1 hf
  rw [← h3] at hl
  obtain ⟨pre, rest, rfl, rfl, hr⟩ := List.map_eq_append_iff.1 hl
  obtain ⟨e, post, rfl, he, rfl⟩ := List.map_eq_cons_iff.1 hr
  have heL : e ∈ d.L := h1.mem_iff.1 (by simp)
  have hid : ∀ y ∈ d.L, y.id = hashB K (blobE y) := fun y hy => (h.ents y hy).blob.2.2.1
  obtain ⟨j, hj⟩ := List.mem_iff_getElem?.1 heL
  refine ⟨j, e, hj, he, by rw [hid e heL, he]; simpa using hx, fun y hy => ?_, fun y hy hyu => pw_eq (fun z : HEnt => z.used) hu hy heL hyu⟩
  rcases List.mem_append.1 (h1.mem_iff.2 hy) with hm | hm
  · left
    have := has (blobE y) (List.mem_map.2 ⟨y, hm, rfl⟩)
    rw [hid y hy]
    simpa using this
  · right
    rcases List.mem_cons.1 hm with rfl | hm
    · exact Int.le_refl _
    · obtain ⟨-, g2, -⟩ := List.pairwise_append.1 h2
      obtain ⟨g3, -⟩ := List.pairwise_cons.1 g2
      have := g3 y hm
      omega
theorem line_none {K : List Int} {d : HvD} {n k : Nat} {line : List (List UInt8)} (h : BSt K d n k line) (hf : line.find? (fun y => decide (hashB K y ∉ d.pins)) = none) : ∀ e ∈ d.L, e.id ∈ d.pins := fun e he => by
  have := List.find?_eq_none.1 hf (blobE e) ((h.mem _).2 ⟨e, he, rfl⟩)
  rw [(h.ents e he).blob.2.2.1]
  simpa using this
theorem box_put {K : List Int} {w : World} {q : HvP} {n k : Nat} {line pins : List (List UInt8)} {S : List Nat} {b : List UInt8} (h : BoxAt K w q n (k + 2) line pins S) (hL : Laid K w) (h0 : 0 ∉ S) (hn : n ≤ 128) (hb : b.length ≤ 512) (hinj : ∀ x ∈ line, hashB K x = hashB K b → x = b) :
    Calls Tryd.prog 23 #[.pointer (some ⟨q.p, 0, none⟩), .string ⟨b.toArray⟩] w (PutBoxPost K q n k line pins b S w) := by
  obtain ⟨d, h1, h2, h3, h4, h5⟩ := h
  have hlt : ∀ e ∈ d.L, e.at_ < n := fun e he => by obtain ⟨b, -, -, -, -, g, -⟩ := h2.ents e he; exact g
  have hfi := full_iff h1 hlt
  by_cases hm : b ∈ line
  · obtain ⟨e, he, hbe⟩ := (h2.mem b).1 hm
    obtain ⟨j, hj⟩ := List.mem_iff_getElem?.1 he
    obtain ⟨g1, g2, g3, g4, g5⟩ := (h2.ents e he).blob
    have hA : putA K n pins line b = (0, mv line b) := by unfold putA; rw [if_pos hm]
    refine (gpb_again K q d j e b w h1 hL h2.ready hb hj g2 (by rw [g3, hbe]) (by have := h2.clk; omega)).mono ?_
    rintro r w' ⟨rfl, ha, hO⟩
    unfold PutBoxPost
    rw [hA]
    refine ⟨rfl, S, ⟨_, ha, ?_, h3, fun x hx => h4 x (by rw [own_use hj] at hx; exact hx), fun x hx => Nat.lt_of_lt_of_le (h5 x hx) hO.size⟩, hO.mono h4, fun x hx => .inl hx⟩
    have := bst_use (h2.less (k' := k + 1) (by omega)) hj
    rw [hbe] at this
    exact this
  · have hne : ∀ e ∈ d.L, (e.isB, e.id) ≠ (true, hashB K b) := fun e he h => hm (by
      have hx := (h2.mem (blobE e)).2 ⟨e, he, rfl⟩
      rw [← hinj (blobE e) hx (by rw [← (h2.ents e he).blob.2.2.1]; exact (Prod.mk.inj h).2)]
      exact hx)
    by_cases hl : line.length < n
    · have hA : putA K n pins line b = (0, line ++ [b]) := by unfold putA; rw [if_neg hm, if_pos hl]
      rcases first_free d.L n with hf | ⟨m, m1, m2, m3⟩
      · have := hfi.1 hf; have := h2.len; omega
      · refine box_put_at h1 h2 h4 h5 hL h0 hn hb hne hA (fun x hx => hx) (h2.less (by omega)) h3 m1 m2 (fun W hW => ?_)
        refine (room_free q d m W hW (by rw [h2.works.len]; exact hn) (by rw [h2.works.len]; exact m1) m2 m3).mono ?_
        rintro r w' ⟨rfl, rfl⟩
        exact ⟨rfl, hW, Only.refl _ _⟩
    · have hfull : ∀ i, i < d.s.slots.length → ∃ e ∈ d.L, e.at_ = i := by rw [h2.works.len]; exact hfi.2 (by have := h2.len; omega)
      have hsl : d.s.slots.length ≤ 128 := by rw [h2.works.len]; exact hn
      cases hf : line.find? (fun x => decide (hashB K x ∉ pins)) with
      | some x =>
        have hA : putA K n pins line b = (0, line.filter (fun y => decide (y ≠ x)) ++ [b]) := by unfold putA; rw [if_neg hm, if_neg hl, hf]
        rw [← h3] at hf
        obtain ⟨j, e, hj, hbe, hep, hlow, huq⟩ := line_first h2 hf
        have he := List.mem_of_getElem? hj
        have hat := hlt e he
        have hw1 := h2.works.write hat [] (by decide)
        have hy := sync_works hw1.2.1
        have hB2 : BSt K { d with s := St.sync (St.write d.s e.at_ []), L := d.L.eraseIdx j } n (k + 1) (line.filter (fun y => decide (y ≠ blobE e))) := bst_out h2 hj (hy.2.more (by have := h2.room; omega)) (by rw [sync_life hw1.2.1, write_life h2.works hat [] (by decide)]; exact h2.life) (fun x hx => by
          have hxe : x.at_ ≠ e.at_ := fun h5 => by
            have hnd := ats_nodup h1
            have hp := (perm_erase hj).map (·.at_)
            have := hp.nodup_iff.2 hnd
            rw [List.map_cons, List.nodup_cons] at this
            exact this.1 (List.mem_map.2 ⟨x, hx, h5⟩)
          rw [sync_read hw1.2.1, hw1.2.2.2 _ hxe])
        rw [hbe] at hB2
        refine box_put_at h1 h2 h4 h5 hL h0 hn hb hne hA (fun x hx => List.mem_of_mem_eraseIdx hx) hB2 h3 hat (fun x hx h5 => ?_) (fun W hW => ?_)
        · have hp := (perm_erase hj).map (·.at_)
          have := hp.nodup_iff.2 (ats_nodup h1)
          rw [List.map_cons, List.nodup_cons] at this
          exact this.1 (List.mem_map.2 ⟨x, hx, h5⟩)
        · refine (room_evict q d j e W hW hsl hfull hj hep hlow huq (h2.works.fits (by omega)) (hw1.2.1.fits (by omega))).mono ?_
          rintro r w' ⟨hO, h | h | ⟨-, -, rfl, ha⟩⟩
          · exact absurd hw1.1 h.1
          · exact absurd hy.1 h.2.1
          · exact ⟨rfl, ha, hO⟩
      | none =>
        have hA : putA K n pins line b = (11, line) := by unfold putA; rw [if_neg hm, if_neg hl, hf]
        rw [← h3] at hf
        have hall := line_none h2 hf
        have h0o : 0 ∉ q.own d.L := fun h => h0 (h4 0 h)
        have hc := gpb_new K q d b (fun er d' => er = 11 ∧ d' = d) w h1 hL h0o h2.ready hb hne (fun W hW hLW => by
          refine (hput_err q d d _ (blobRowS b) 11 0 W hW (by decide) (fun V hV => ?_)).mono ?_
          · refine (room_none q d V hV hsl hfull hall).mono ?_
            rintro r w' ⟨rfl, hB⟩
            exact ⟨rfl, hV.below hB, Only.of_below hB⟩
          · rintro r w' ⟨rfl, ha, hO⟩
            exact ⟨11, d, rfl, ⟨rfl, rfl⟩, ha, hO, fun x hx => .inl hx⟩)
        refine hc.mono ?_
        rintro r w' ⟨er, d', rfl, ⟨rfl, rfl⟩, ha, hO, -⟩
        unfold PutBoxPost
        rw [hA]
        exact ⟨rfl, S, ⟨_, ha, h2.less (by omega), h3, h4, fun x hx => Nat.lt_of_lt_of_le (h5 x hx) hO.size⟩, hO.mono h4, fun x hx => .inl hx⟩
end Go.Proofs.YteihfoacdocgkaaDoor
