/-
  HiveOldest: what is thrown out is what wasn't used for the longest time. No condition: every input.
-/
import Derived.Test.YteihfoacdocgkaaDoorHwI
import Derived.Test.YteihfoacdocgkaaDoorRow
import Derived.Deep.Fields
import Derived.ChangeSame
import Derived.Test.YteihfoacdocgkaaDoorCards
import Derived.Test.YteihfoacdocgkaaDoorTie
set_option linter.unusedVariables false
set_option linter.unusedSimpArgs false
namespace Go.Proofs.YteihfoacdocgkaaDoor
open Go.RowKit Pl Sh
attribute [local go_sem] Lb.ba_get Lb.ba_cut Lb.ba_add Lb.ba_size Lb.take_rest

/-- the line behind a text that is put or asked for -/
def nextL (n : Nat) (line : List (List UInt8)) (b : List UInt8) : List (List UInt8) := if n < (mv line b).length then (mv line b).tail else mv line b
structure OldInv (n : Nat) (ts line : List (List UInt8)) : Prop where
  nd : line.Nodup
  len : line.length ≤ n
  sub : ∀ x ∈ line, x ∈ ts
theorem mv_len {line : List (List UInt8)} {b : List UInt8} : (mv line b).length ≤ line.length + 1 := by
  unfold mv
  rw [List.length_append]
  have := List.length_filter_le (fun x => decide (x ≠ b)) line
  simpa using this
theorem mv_sub {line : List (List UInt8)} {b x : List UInt8} (h : x ∈ mv line b) : x ∈ line ∨ x = b := by
  unfold mv at h
  rcases List.mem_append.1 h with h | h
  · exact .inl (List.mem_filter.1 h).1
  · right; simpa using h
theorem OldInv.next {n : Nat} {ts line : List (List UInt8)} {b : List UInt8} (h : OldInv n ts line) (hb : b ∈ ts) : OldInv n ts (nextL n line b) := by
  have hm := mv_nodup (b := b) h.nd
  have hl := mv_len (line := line) (b := b)
  have hs : ∀ x ∈ mv line b, x ∈ ts := fun x hx => by
    rcases mv_sub hx with h1 | h1
    · exact h.sub x h1
    · rw [h1]; exact hb
  have := h.len
  unfold nextL
  by_cases hn : n < (mv line b).length
  · rw [if_pos hn]
    exact ⟨hm.sublist (List.tail_sublist _), by rw [List.length_tail]; omega, fun x hx => hs x (List.mem_of_mem_tail hx)⟩
  · rw [if_neg hn]
    exact ⟨hm, by omega, hs⟩
theorem nextL_mem {n : Nat} {line : List (List UInt8)} {b : List UInt8} (hn : line.Nodup) (hl : line.length ≤ n) (hb : b ∈ line) : nextL n line b = mv line b := by
  unfold nextL
  rw [if_neg (by rw [(mv_perm hn hb).length_eq]; omega)]
def blkO : Option Addr → List Nat
  | some a => [a.block]
  | none => []
theorem LineV.blk {w : World} {A : Option Addr} {n c : Nat} {ls : List (List UInt8)} {S : List Nat} (h : LineV w (.slice A n c) ls S) : ∀ z ∈ blkO A, z < w.heap.size ∧ z ∉ S := by
  obtain ⟨A', c', hv, -, -, -, ha⟩ := h.shape
  injection hv with e1
  subst e1
  intro z hz
  cases A with
  | none => cases hz
  | some a =>
    have : z = a.block := by simpa [blkO] using hz
    subst this
    exact ha a rfl
theorem LineV.keep {w w' : World} {A : Option Addr} {n c : Nat} {ls : List (List UInt8)} {S T : List Nat} (h : LineV w (.slice A n c) ls S) (ho : Only T w w') (hT : ∀ z ∈ blkO A, z ∉ T) : LineV w' (.slice A n c) ls S := by
  obtain ⟨A', c', hv, h1, h2, hs, ha⟩ := h.shape
  have hv' := hv
  injection hv with e1
  subst e1
  refine ⟨_, _, hv', h1, h2, fun i hi => ?_, fun a e => ⟨Nat.lt_of_lt_of_le (ha a e).1 ho.size, (ha a e).2⟩⟩
  obtain ⟨a, e, hl, hc⟩ := hs i hi
  exact ⟨a, e, Nat.lt_of_lt_of_le hl ho.size, (World.cell?_of_block (a := a.add i) (by rw [block_add]; exact ho.block _ hl (hT _ (by rw [e]; simp [blkO])))).trans hc⟩
theorem LineV.mono {w : World} {v : Value} {ls : List (List UInt8)} {S S' : List Nat} (h : LineV w v ls S) (hS : ∀ x ∈ S', x ∈ S) : LineV w v ls S' := by
  obtain ⟨A', c', hv, h1, h2, hs, ha⟩ := h.shape
  exact ⟨_, _, hv, h1, h2, hs, fun a e => ⟨(ha a e).1, fun hx => (ha a e).2 (hS _ hx)⟩⟩
theorem LineV.tail2 {w : World} {a : Addr} {c : Nat} {x : List UInt8} {ls : List (List UInt8)} {S : List Nat} (h : LineV w (.slice (Option.some a) (ls.length + 1) c) (x :: ls) S) : a.spot = none ∧ LineV w (.slice (Option.some ⟨a.block, a.off + 1, none⟩) ls.length (c - 1)) ls S := by
  have ht := h.tail
  obtain ⟨A', c', hv, -, -, hs, -⟩ := h.shape
  injection hv with e1 e2 e3
  subst e1
  obtain ⟨a0, ea0, -, hc0⟩ := hs 0 (by simp)
  obtain rfl := Option.some.inj ea0
  have hsp := spot_of_cell' hc0
  obtain ⟨b0, o0, s0⟩ := a
  have hsp0 : s0 = none := by
    rw [Addr.add] at hsp
    cases s0 with
    | none => rfl
    | some y => simp at hsp
  subst hsp0
  rw [Addr.add_lit] at ht
  exact ⟨rfl, ht⟩
/-- the texts among the first k that are not b -/
def restN (line : List (List UInt8)) (b : List UInt8) (k : Nat) : List (List UInt8) := (line.take k).filter (fun x => decide (x ≠ b))
theorem restN_succ {line : List (List UInt8)} {b : List UInt8} {k : Nat} (h : k < line.length) : restN line b (k + 1) = restN line b k ++ (if line[k] ≠ b then [line[k]] else []) := by
  unfold restN
  rw [List.take_add_one, List.getElem?_eq_getElem h, List.filter_append]
  congr 1
  by_cases e : line[k] = b
  · simp [e]
  · simp [e]
theorem restN_len {line : List (List UInt8)} {b : List UInt8} {k : Nat} : (restN line b k).length ≤ line.length := by
  unfold restN
  exact Nat.le_trans (List.length_filter_le _ _) (by rw [List.length_take]; omega)

set_option maxHeartbeats 8000000 in
set_option maxRecDepth 100000 in
theorem hiveOldest_core (x : Int) (A : Option Addr) (cap : Nat) (ts : List (List UInt8)) (A2 : Option Addr) (cap2 : Nat) (is : List Int) (w : World) (hL : Laid KK w) (haw : Calls Tryd.prog 18 #[] w fun e w' => e = .returned (.bool true) ∧ Below w.heap.size w w')
    (xlo : -9223372036854775808 ≤ x) (xhi : x ≤ 9223372036854775807) (hS : Strs w w.heap.size A ts) (hl : ts.length ≤ maxLen) (hI : Ints w w.heap.size A2 is) (hl2 : is.length ≤ maxLen) (hib : ∀ f ∈ is, -9223372036854775808 ≤ f ∧ f ≤ 9223372036854775807) :
    Calls Tryd.prog 7 #[.int .i64 x, .slice A ts.length cap, .slice A2 is.length cap2] w fun e w' => e = .returned (.bool true) ∧ Below w.heap.size w w' := by
  have HL := Lib.hid hL
  have HS := Lib.hid hS
  have HI := Lib.hid hI
  have Hib := Lib.hid hib
  have haw' := Lib.hid haw
  obtain ⟨u, kb, hu, hub, hj, hjw, hjw2, hk10⟩ := u64_mod10b x ⟨xlo, xhi⟩
  have hwd := Lib.hid (fun W (hW : Below w.heap.size w W) => wide_any A cap ts W ((HS.out.below hW (Nat.le_refl _)).more hW.size) hl)
  obtain ⟨nt, hnt⟩ : ∃ n, n = ts.length := ⟨_, rfl⟩
  obtain ⟨ni, hni⟩ : ∃ n, n = is.length := ⟨_, rfl⟩
  have ht63 : (nt : Int) ≤ 9223372036854775807 := by unfold maxLen at hl; omega
  have hi63 : (ni : Int) ≤ 9223372036854775807 := by unfold maxLen at hl2; omega
  have hcl : ∀ W (hW : Below w.heap.size w W) (h2 : nt ≤ 70) (h3 : ∀ t ∈ ts, t.length ≤ 512), Calls Tryd.prog 22 #[.slice A ts.length cap, .slice none 0 0] W (ClashPost KK ts W) := fun W hW h2 h3 => by
    have := clash_any KK A cap ts none 0 [] W (HL.out.below hW) ((HS.out.below hW (Nat.le_refl _)).more hW.size) (fun i hi => by simp at hi) (by omega) (by simp) (fun t ht => by have := h3 t (by simpa using ht); omega)
    rw [List.append_nil] at this
    exact this
  rw [← hnt] at hwd hcl ⊢
  rw [← hni]
  have Hcl := Lib.hid hcl
  have Hnt := Lib.hid hnt
  have Hni := Lib.hid hni
  clear hL hS hI hl hl2 hnt hni haw hcl hib
  go_enter Tryd.func7, Tryd.ntmps7
  go_wp2_with fail
  refine haw'.out.mono ?_
  rintro e w1 ⟨rfl, hB1⟩
  have HB1 := Lib.hid hB1
  clear hB1 haw'
  go_wp2_with fail
  obtain ⟨n, hn⟩ : ∃ n : Nat, (kb : Int) + 1 = (n : Int) := ⟨kb + 1, by omega⟩
  rw [hn]
  have hn1 : 1 ≤ n := by omega
  have hn10 : n ≤ 10 := by omega
  clear hu hub hj hjw hjw2 hk10 hn
  refine (new_any n w1 (by omega)).mono ?_
  rintro e w2 ⟨rfl, h2, hB2⟩
  have hbn := Lib.hid (box_new KK n w1 w2 (by omega) h2)
  have HB2 := Lib.hid (HB1.out.trans (hB2.mono HB1.out.size))
  clear h2 hB2
  go_wp2_with fail
  refine hbn.out.mono ?_
  rintro e w3 ⟨q, S, rfl, hbox, hlo, hB3, -, -⟩
  have Hbox := Lib.hid hbox
  have HSlo : Hid (∀ x ∈ S, w.heap.size ≤ x) := Lib.hid (fun x hx => Nat.le_trans HB1.out.size (hlo x hx))
  have HB3 := Lib.hid (HB2.out.trans (hB3.mono HB2.out.size))
  clear hbox hlo hB3 hbn
  by_cases ht70 : (70 : Int) < (nt : Int)
  · go_wp2_with fail
    go_ret
    exact ⟨rfl, HB3.out⟩
  have t70 : nt ≤ 70 := by omega
  go_wp2_with fail
  refine (hwd.out w3 HB3.out).mono ?_
  rintro e w4 ⟨b1, rfl, hw1, rfl⟩
  have Hw1 := Lib.hid hw1
  clear hw1 hwd
  cases b1 with
  | true =>
    go_wp2_with fail
    go_ret
    exact ⟨rfl, HB3.out⟩
  | false =>
  have H512 : Hid (∀ t ∈ ts, t.length ≤ 512) := Lib.hid (by first | exact Hw1.out rfl | exact Hw1.out trivial)
  go_wp2_with fail
  refine (Hcl.out w3 HB3.out t70 H512.out).mono ?_
  rintro e w5 ⟨b3, rfl, hal, hB5⟩
  have Hal := Lib.hid hal
  have HB5 := Lib.hid (HB3.out.trans (hB5.mono HB3.out.size))
  have Hbox5 := Lib.hid (Hbox.out.below hB5)
  clear hal hB5 Hcl
  cases b3 with
  | true =>
    go_wp2_with fail
    go_ret
    exact ⟨rfl, HB5.out⟩
  | false =>
  have hinj : ∀ x ∈ ts, ∀ y ∈ ts, hashB KK x = hashB KK y → x = y := by
    intro x hx y hy hxy
    obtain ⟨i, hi, ei⟩ := List.getElem_of_mem hx
    obtain ⟨k, hk, ek⟩ := List.getElem_of_mem hy
    have ha : AloneH KK ts ts.length := by first | exact Hal.out rfl | exact Hal.out trivial
    rw [getD_getH hi] at ei
    rw [getD_getH hk] at ek
    refine Classical.byContradiction fun hne => ?_
    rcases Nat.lt_trichotomy i k with h | h | h
    · exact ha k hk i h (by rw [ei, ek]; exact fun e => hne e.symm) (by rw [ei, ek]; exact hxy.symm)
    · subst h; exact hne (by rw [← ei, ← ek])
    · exact ha i hi k h (by rw [ei, ek]; exact hne) (by rw [ei, ek]; exact hxy)
  have Hinj := Lib.hid hinj
  clear hinj
  have hSlt : ∀ x ∈ S, x < w5.heap.size := by
    obtain ⟨d, -, -, -, -, h5⟩ := Hbox5.out
    exact h5
  have hkv := (kept_nil (B := w.heap.size) HB5.out.size hSlt).line
  have hb6 := (Below.refl w5.heap.size w5).alloc (Nat.le_refl _) (.cells #[] 9)
  have HB6 := Lib.hid (HB5.out.trans (hb6.mono HB5.out.size))
  have Hbox6 := Lib.hid (Hbox5.out.below hb6)
  have Hkv := Lib.hid hkv
  clear hkv hb6 hSlt
  go_wp2_with fail
  go_loopw [10, 11] (fun lv iv wr => ∃ (i : Nat) (line : List (List UInt8)) (S' : List Nat), i ≤ nt ∧ iv = .int .i64 i ∧ LineV wr lv line S' ∧ OldInv n ts line ∧ BoxAt KK wr q n (200000 - 10 * i) line [] S' ∧ (∀ x ∈ S', w.heap.size ≤ x) ∧ Below w.heap.size w wr) (fun _ iv _ => nt - (intOf iv).toNat)
  case atStart => exact ⟨0, [], S, by omega, rfl, Hkv.out, ⟨List.nodup_nil, Nat.zero_le _, fun x h => by cases h⟩, Hbox6.out, HSlo.out, HB6.out⟩
  case round =>
    obtain ⟨i, line, S', hi, rfl, hlv, hold, hbox, hlo, hb⟩ := hrel
    have Hlv := Lib.hid hlv
    have Hold := Lib.hid hold
    have Hbx := Lib.hid hbox
    have Hlo := Lib.hid hlo
    have Hb := Lib.hid hb
    clear hold hbox hlo hb Hkv Hbox6 Hbox5 Hbox
    by_cases hit : i < nt
    · have j1 : (i : Int) < (nt : Int) := by omega
      have hil : i < ts.length := by rw [← Hnt.out]; exact hit
      obtain ⟨a, rfl, hab, hc0⟩ := HS.out i hil
      have hc := (Hb.out.cell (p := a.add i) (by rw [block_add]; exact hab)).trans hc0
      obtain ⟨s0, hs0⟩ : ∃ t, t = ts[i] := ⟨_, rfl⟩
      have hsm : s0 ∈ ts := by rw [hs0]; exact List.getElem_mem hil
      rw [← hs0] at hc hc0
      have Hsm := Lib.hid hsm
      clear hs0 hsm hc0
      obtain ⟨LA, lc, rfl, hlc1, hlc2, hls, hla⟩ := hlv.shape
      have Hls := Lib.hid hls
      have hm10 : line.length ≤ 10 := by have := Hold.out.len; omega
      obtain ⟨m, hm⟩ : ∃ m, m = line.length := ⟨_, rfl⟩
      rw [← hm] at hm10 ⊢
      have Hm := Lib.hid hm
      have h0S' : 0 ∉ S' := fun hx => by have := Hlo.out 0 hx; have := HL.out.lt; omega
      have H0S := Lib.hid h0S'
      clear hls hla hm hlv h0S'
      go_upto_region 12 with fail
      go_cut [71] from 53 to 137 (fun v wx => v = .bool (decide (i < ni ∧ 0 < m)) ∧ wx = wr)
      case first =>
        by_cases h1 : i < ni
        · have k1 : (i : Int) < (ni : Int) := by omega
          by_cases h2 : 0 < m
          · have k2 : (0 : Int) < (m : Int) := by omega
            go_wp2_with fail
            go_meet
            case rel => exact ⟨by simp [h1, h2], rfl⟩
          · have k2 : ¬ (0 : Int) < (m : Int) := by omega
            go_wp2_with fail
            go_meet
            case rel => exact ⟨by simp [h1, h2], rfl⟩
        · have k1 : ¬ (i : Int) < (ni : Int) := by omega
          go_wp2_with fail
          go_meet
          case rel => exact ⟨by simp [h1], rfl⟩
      obtain ⟨rfl, rfl⟩ := hcut
      go_upto_if 71 with fail
      go_cut [12] from 53 to 137 (fun v wx => ∃ (b : List UInt8) (S2 : List Nat), v = .string ⟨b.toArray⟩ ∧ b ∈ ts ∧ BoxAt KK wx q n (200000 - 10 * (i + 1)) (nextL n line b) [] S2 ∧ Only S' wc wx ∧ ∀ x ∈ S2, x ∈ S' ∨ wc.heap.size ≤ x)
      case first =>
        by_cases hask : i < ni ∧ 0 < m
        · have hdec : decide (i < ni ∧ 0 < m) = true := by simp [hask]
          rw [hdec]
          clear hdec
          obtain ⟨h1, h2⟩ := hask
          have k1 : (i : Int) < (ni : Int) := by omega
          have hiil : i < is.length := by rw [← Hni.out]; exact h1
          obtain ⟨a2, rfl, ha2, hc2⟩ := HI.out i hiil
          have hcI := (Hb.out.cell (p := a2.add i) (by rw [block_add]; exact ha2)).trans hc2
          obtain ⟨y, hy⟩ : ∃ y, y = is[i] := ⟨_, rfl⟩
          have hyb := Hib.out _ (List.getElem_mem hiil)
          rw [← hy] at hcI hyb
          obtain ⟨u, kk, hu, hub, hj, hjw, hkm⟩ := u64_modk y m h2 (by omega) hyb
          have hmw : IntKind.u64.wrap (m : Int) = (m : Int) := IntWalk.u64_in _ (by omega)
          have hkl : kk < line.length := by rw [← Hm.out]; exact hkm
          obtain ⟨a3, rfl, ha3, hc3⟩ := Hls.out kk hkl
          obtain ⟨s, hs⟩ : ∃ s, s = line[kk] := ⟨_, rfl⟩
          have hsl : s ∈ line := by rw [hs]; exact List.getElem_mem hkl
          rw [← hs] at hc3
          have Hsl := Lib.hid hsl
          have hs512 : s.length ≤ 512 := H512.out s (Hold.out.sub s hsl)
          have hb1s := (Below.refl wc.heap.size wc).alloc (Nat.le_refl _) (.cells #[.string ⟨s.toArray⟩] 9)
          have cb : (wc.alloc (.cells #[.string ⟨s.toArray⟩] 9)).cell? ⟨wc.heap.size, 0, none⟩ = some (.string ⟨s.toArray⟩) := by rw [Lib.cell_of_heap (heap_alloc_new wc _)]; rfl
          have hof := Lib.hid (of_hash KK (some ⟨wc.heap.size, 0, none⟩) 1 s _ ((HL.out.below Hb.out).below hb1s) ⟨_, rfl, cb⟩ (by omega))
          have Hb1s := Lib.hid hb1s
          have k3 : (kk : Int) < (m : Int) := by omega
          have k4 : (m : Int) ≠ 0 := by omega
          clear hs hsl hy hyb hc2 ha2 ha3 hb1s cb
          go_wp2_with fail
          refine hof.out.mono ?_
          rintro r wy ⟨rfl, hby⟩
          have hby2 : Below wc.heap.size wc wy := Hb1s.out.trans (hby.mono Hb1s.out.size)
          have hyes := Lib.hid (box_yes (k := 200000 - 10 * (i + 1)) ((Hbx.out.below hby2).less (by omega)) ((HL.out.below Hb.out).below hby2) Hsl.out)
          obtain ⟨hd, hhd⟩ : ∃ x, x = digV (hashB KK s) := ⟨_, rfl⟩
          rw [← hhd] at hyes ⊢
          have Hby := Lib.hid hby2
          have hss : (s != s) = false := by simp
          clear hof hby hby2 hhd
          go_wp2_with fail
          refine hyes.out.mono ?_
          rintro r wv ⟨rfl, hbox5, hO5⟩
          have Hbox5 := Lib.hid hbox5
          have HO5 : Hid (Only S' wc wv) := Lib.hid ((Only.of_below Hby.out : Only S' wc wy).trans hO5)
          clear hbox5 hO5 hyes
          go_wp2_with fail
          go_meet
          case rel => exact ⟨s, S', rfl, Hold.out.sub s Hsl.out, by rw [nextL_mem Hold.out.nd Hold.out.len Hsl.out]; exact Hbox5.out, HO5.out, fun x hx => .inl hx⟩
        · have hdec : decide (i < ni ∧ 0 < m) = false := decide_eq_false hask
          rw [hdec]
          have hs512 : s0.length ≤ 512 := H512.out s0 Hsm.out
          have hA : putA KK n [] line s0 = (0, nextL n line s0) := put_old Hold.out.nd Hold.out.len (by omega)
          have hput := Lib.hid (box_put_is (dg := hashB KK s0) (k := 200000 - 10 * (i + 1)) hA (by rw [if_pos rfl]) (Hbx.out.less (by omega)) (HL.out.below Hb.out) H0S.out (by omega) hs512 (fun x hx e => Hinj.out x (Hold.out.sub x hx) s0 Hsm.out e))
          have hdl := hashB_length KK s0
          obtain ⟨dg, hdg⟩ : ∃ v, v = hashB KK s0 := ⟨_, rfl⟩
          rw [← hdg] at hput hdl
          obtain ⟨DV, hDV⟩ : ∃ v, v = digV dg := ⟨_, rfl⟩
          have dsz : DV.size = 32 := by rw [hDV]; simp [digV, byV_length, hdl]
          have dixA : (Tryd.prog.info? 23).map (·.size) = some DV.size := by rw [dig_info, dsz]
          have doneA : DV.all (·.oneCell') = true := by rw [hDV]; exact digV_one dg
          rw [← hDV] at hput
          clear hA hdg hDV hask hdec
          go_wp2_with fail
          refine hput.out.mono ?_
          rintro r w8 ⟨rfl, S2, hbox, hO, hS2⟩
          have Hbox2 := Lib.hid hbox
          have HO2 := Lib.hid hO
          have HS2' := Lib.hid hS2
          clear hbox hO hS2 hput
          go_upto_region 18 with (first | (refine wpList_store_row rfl 23 _ _ rfl w8.heap.size DV rfl rfl 23 _ (heap_alloc_new w8 _) dixA (by rw [dsz]; rfl) doneA ?_))
          show Code.wp _ _ _ _ ((w8.alloc (.cells (digV (List.replicate 32 0)) 23)).setRow w8.heap.size DV)
          obtain ⟨hq_w9, hB_w9⟩ := put_newH w8 (digV (List.replicate 32 0)) DV 23
          obtain ⟨db, hp_w9⟩ : ∃ q, q = w8.heap.size := ⟨_, rfl⟩
          obtain ⟨w9, hw_w9⟩ : ∃ y, y = ((w8.alloc (.cells (digV (List.replicate 32 0)) 23)).setRow w8.heap.size DV) := ⟨_, rfl⟩
          rw [← hw_w9] at hq_w9 hB_w9 ⊢
          rw [← hp_w9] at hq_w9 ⊢
          have HQ_w9 := Lib.hid hq_w9
          have HB_w9 := Lib.hid hB_w9
          have Hp_w9 := Lib.hid hp_w9
          clear hq_w9 hB_w9 hp_w9 hw_w9
          clear dixA doneA dsz HQ_w9
          go_wp2_with fail
          go_meet
          case rel => exact ⟨s0, S2, rfl, Hsm.out, Hbox2.out.below HB_w9.out, HO2.out.belowB (HB_w9.out.mono HO2.out.size), HS2'.out⟩
      obtain ⟨b, S2, rfl, hbt, hbox, hO, hS2⟩ := hcut
      have HO2 := Lib.hid hO
      have HS2' := Lib.hid hS2
      have Hbt := Lib.hid hbt
      have Hlo2 : Hid (∀ x ∈ S2, w.heap.size ≤ x) := Lib.hid (fun x hx => by rcases hS2 x hx with h | h; exact Hlo.out x h; exact Nat.le_trans Hb.out.size h)
      have HB2x := Lib.hid (Hb.out.trans (hO.below Hb.out.size Hlo.out))
      have Hlv2 := Lib.hid (Hlv.out.step hO hS2)
      have hlt2 : ∀ z ∈ S2, z < wc.heap.size := by
        obtain ⟨d, -, -, -, -, h5⟩ := hbox
        exact h5
      have hltL : ∀ z ∈ blkO LA ++ S2, z < wc.heap.size := fun z hz => by
        rcases List.mem_append.1 hz with h | h
        · exact (Hlv2.out.blk z h).1
        · exact hlt2 z h
      have hb7 := (Below.refl wc.heap.size wc).alloc (Nat.le_refl _) (.cells #[] 9)
      have Hkv0 := Lib.hid (kept_nil (B := w.heap.size) HB2x.out.size hltL)
      have Hbox7 := Lib.hid (hbox.below hb7)
      have Hlv7 := Lib.hid (Hlv2.out.below hb7)
      have HB7 := Lib.hid (HB2x.out.trans (hb7.mono HB2x.out.size))
      clear hbox hO hS2 hbt hlt2 hltL hb7 hc Hbx Hlo
      go_wp2_with fail
      go_loopw [17, 18] (fun rv kv wr => ∃ k : Nat, k ≤ m ∧ kv = .int .i64 k ∧ KeptV wr w.heap.size rv (restN line b k) (blkO LA ++ S2) ∧ LineV wr (.slice LA line.length lc) line S2 ∧ BoxAt KK wr q n (200000 - 10 * (i + 1)) (nextL n line b) [] S2 ∧ Below w.heap.size w wr) (fun _ kv _ => m - (intOf kv).toNat)
      case atStart => exact ⟨0, by omega, rfl, Hkv0.out, Hlv7.out, Hbox7.out, HB7.out⟩
      case round =>
        obtain ⟨k, hk, rfl, hkv, hlv, hbox, hb⟩ := hrel
        obtain ⟨Ak, ck, rfl, -⟩ := hkv.shape
        obtain ⟨nr, hnr⟩ : ∃ x, x = (restN line b k).length := ⟨_, rfl⟩
        rw [← hnr] at hkv ⊢
        have hrl : (restN line b k).length ≤ 1000 := by have := restN_len (line := line) (b := b) (k := k); have := Hm.out; omega
        have Hrl := Lib.hid hrl
        have Hnr := Lib.hid hnr
        have Hkr := Lib.hid hkv
        have Hlr := Lib.hid hlv
        clear hrl hnr
        have Hbr := Lib.hid hbox
        have HBr := Lib.hid hb
        clear hkv hbox hb Hkv0 Hlv7 Hbox7 HB7 Hlv2
        by_cases hkm : k < m
        · have k1 : (k : Int) < (m : Int) := by omega
          have hkl : k < line.length := by rw [← Hm.out]; exact hkm
          obtain ⟨a3, rfl, ha3, hc3⟩ := hlv.strs.2 k hkl
          obtain ⟨s, hs⟩ : ∃ s, s = line[k] := ⟨_, rfl⟩
          rw [← hs] at hc3
          have hrs := restN_succ (b := b) hkl
          rw [← hs] at hrs
          by_cases hsb : s = b
          · rw [if_neg (by simpa using hsb), List.append_nil] at hrs
            have Hrs := Lib.hid hrs
            clear hrs hs hlv ha3
            subst hsb
            have e1 : (s != s) = false := by simp
            go_wp2_with fail
            go_roundw
            case rel => exact ⟨k + 1, by omega, by go_num, by rw [Hrs.out]; exact Hkr.out, Hlr.out, Hbr.out, HBr.out⟩
            case measure => simp [intOf]; omega
          · have e1 : (s != b) = true := by simpa using hsb
            have e2 : (s == b) = false := by simpa using hsb
            rw [if_pos hsb] at hrs
            have Hrs := Lib.hid hrs
            have hb8 := (Below.refl wr.heap.size wr).alloc (Nat.le_refl _) (.cells #[.string ⟨s.toArray⟩] 9)
            have hlt3 : ∀ z ∈ blkO (some a3) ++ S2, z < (wr.alloc (.cells #[.string ⟨s.toArray⟩] 9)).heap.size := fun z hz => by
              refine Nat.lt_of_lt_of_le ?_ hb8.size
              rcases List.mem_append.1 hz with h | h
              · exact (Hlr.out.blk z h).1
              · obtain ⟨d, -, -, -, -, h5⟩ := Hbr.out
                exact h5 z h
            have hsrc : Src Tryd.prog 1 49 (.slice (some ⟨wr.heap.size, 0, none⟩) 1 1) 1 [.string ⟨s.toArray⟩] (wr.alloc (.cells #[.string ⟨s.toArray⟩] 9)) := str_src _ 1 _ (by rw [Lib.cell_of_heap (heap_alloc_new wr _)]; rfl)
            have hkv8 := Hkr.out.below hb8
            have HB8 := Lib.hid (HBr.out.trans (hb8.mono HBr.out.size))
            have hBw := HB8.out.size
            have Hl8 := Lib.hid (Hlr.out.below hb8)
            have Hb8 := Lib.hid (Hbr.out.below hb8)
            clear hrs hs hsb hlv ha3 hb8
            go_wp2_with (at_builtin; refine wpList_append_kept _ rfl _ _ rfl hBw rfl hkv8 hlt3 Hrl.out _ s rfl hsrc ?_)
            intro v' w10 T hkv10 hT hTS
            have Hb10 := Lib.hid (Hb8.out.apart hT (fun x hx hx2 => (hTS x hx2).2.2 hx))
            have Hl10 : Hid (LineV w10 (.slice (some a3) line.length lc) line S2) := Lib.hid (Hl8.out.keep hT (fun z hz hz2 => (hTS z hz2).2.1 hz))
            have Hkv10 := Lib.hid hkv10
            have HB10 := Lib.hid (HB8.out.trans (hT.below HB8.out.size (fun z hz => (hTS z hz).1)))
            obtain ⟨A10, c10, hv10, -⟩ := hkv10.shape
            subst hv10
            clear hkv10 hT hTS hkv8 hsrc hBw hlt3
            go_wp2_with fail
            go_roundw
            case rel => exact ⟨k + 1, by omega, by go_num, by rw [Hrs.out]; exact Hkv10.out, Hl10.out, Hb10.out, HB10.out⟩
            case measure => simp [intOf]; omega
        · obtain rfl : k = m := by omega
          have k1 : ¬ (k : Int) < (k : Int) := by omega
          have hrest : restN line b k ++ [b] = mv line b := by
            unfold restN mv
            rw [Hm.out, List.take_length]
          have Hrest := Lib.hid hrest
          have hb8 := (Below.refl wr.heap.size wr).alloc (Nat.le_refl _) (.cells #[.string ⟨b.toArray⟩] 9)
          have hlt3 : ∀ z ∈ blkO LA ++ S2, z < (wr.alloc (.cells #[.string ⟨b.toArray⟩] 9)).heap.size := fun z hz => by
            refine Nat.lt_of_lt_of_le ?_ hb8.size
            rcases List.mem_append.1 hz with h | h
            · exact (Hlr.out.blk z h).1
            · obtain ⟨d, -, -, -, -, h5⟩ := Hbr.out
              exact h5 z h
          have hsrc : Src Tryd.prog 1 49 (.slice (some ⟨wr.heap.size, 0, none⟩) 1 1) 1 [.string ⟨b.toArray⟩] (wr.alloc (.cells #[.string ⟨b.toArray⟩] 9)) := str_src _ 1 _ (by rw [Lib.cell_of_heap (heap_alloc_new wr _)]; rfl)
          have hkv8 := Hkr.out.below hb8
          have HB8 := Lib.hid (HBr.out.trans (hb8.mono HBr.out.size))
          have hBw := HB8.out.size
          have Hb8 := Lib.hid (Hbr.out.below hb8)
          clear hrest hlv hb8
          go_wp2_with (at_builtin; refine wpList_append_kept _ rfl _ _ rfl hBw rfl hkv8 hlt3 Hrl.out _ b rfl hsrc ?_)
          intro v' w10 T hkv10 hT hTS
          rw [Hrest.out] at hkv10
          have Hb10 := Lib.hid (Hb8.out.apart hT (fun x hx hx2 => (hTS x hx2).2.2 hx))
          have hln := (hkv10.line).mono (S' := S2) (fun x hx => List.mem_append_right _ hx)
          have HB10 := Lib.hid (HB8.out.trans (hT.below HB8.out.size (fun z hz => (hTS z hz).1)))
          obtain ⟨A10, c10, hv10, hcl, hcm, -⟩ := hln.shape
          subst hv10
          have Hln := Lib.hid hln
          obtain ⟨m2, hm2⟩ : ∃ x, x = (mv line b).length := ⟨_, rfl⟩
          rw [← hm2] at hcl ⊢
          have Hm2 := Lib.hid hm2
          clear hkv10 hT hTS hkv8 hsrc hBw hlt3 hln hm2
          by_cases hn2 : n < m2
          · have n1 : (n : Int) < (m2 : Int) := by omega
            obtain ⟨x0, l0, hx0⟩ : ∃ x l, mv line b = x :: l := by
              cases hq : mv line b with
              | nil => have := Hm2.out; rw [hq] at this; simp at this; omega
              | cons x l => exact ⟨x, l, rfl⟩
            have hm2l : m2 = l0.length + 1 := by rw [Hm2.out, hx0]; rfl
            have hl10 : LineV w10 (.slice A10 (l0.length + 1) c10) (x0 :: l0) S2 := by
              have h := Hln.out
              rw [hx0] at h
              exact h
            obtain ⟨a10, c', hv10, -, -⟩ := hl10.some
            injection hv10 with ea en ec
            subst ea
            subst ec
            obtain ⟨hsp, hl11⟩ := hl10.tail2
            obtain ⟨b0, o0, s0'⟩ := a10
            simp only at hsp
            subst hsp
            have hnx : nextL n line b = l0 := by unfold nextL; rw [if_pos (by rw [← Hm2.out]; exact hn2), hx0]; rfl
            have Hnx := Lib.hid hnx
            have Hl11 := Lib.hid hl11
            have Hm2l := Lib.hid hm2l
            have Hnew := Lib.hid (Hold.out.next Hbt.out)
            have hc1 : ¬ c10 = 1 := by omega
            have hm1 : 1 ≤ m2 := by omega
            have hm1' : (1 : Int) ≤ (m2 : Int) := by omega
            have hcm2 : (m2 : Int) ≤ (c10 : Int) := by omega
            clear hx0 hm2l hl10 hnx hl11
            go_wp2_with fail
            go_roundw
            case rel => exact ⟨i + 1, nextL n line b, S2, by omega, by go_num, (by rw [Hnx.out, Hm2l.out, Nat.add_sub_cancel]; exact Hl11.out), Hnew.out, Hb10.out, Hlo2.out, HB10.out⟩
            case measure => simp [intOf]; omega
          · have n1 : ¬ (n : Int) < (m2 : Int) := by omega
            have hnx : nextL n line b = mv line b := by unfold nextL; rw [if_neg (by rw [← Hm2.out]; exact hn2)]
            have Hnx := Lib.hid hnx
            have Hnew := Lib.hid (Hold.out.next Hbt.out)
            clear hnx
            go_wp2_with fail
            go_roundw
            case rel => exact ⟨i + 1, nextL n line b, S2, by omega, by go_num, by rw [Hnx.out, Hm2.out]; exact Hln.out, Hnew.out, Hb10.out, Hlo2.out, HB10.out⟩
            case measure => simp [intOf]; omega
    · obtain rfl : i = nt := by omega
      have j1 : ¬ (i : Int) < (i : Int) := by omega
      obtain ⟨LA, lc, rfl, -, -, hls, -⟩ := hlv.shape
      obtain ⟨m, hm⟩ : ∃ m, m = line.length := ⟨_, rfl⟩
      have hm10 : m ≤ 10 := by have := Hold.out.len; omega
      have Hlv0 : Hid (LineV wr (.slice LA line.length lc) line S') := Lib.hid hlv
      have hlen := Lib.hid (box_len Hbx.out)
      rw [← hm] at hlen ⊢
      have Hm := Lib.hid hm
      have hmm : ((m : Int) != (m : Int)) = false := by simp
      clear hls hm hlv
      go_wp2_with fail
      refine hlen.out.mono ?_
      rintro r w6 ⟨rfl, rfl⟩
      go_wp2_with fail
      go_loopw [19] (fun kv wr => ∃ (k : Nat) (line2 : List (List UInt8)), k ≤ m ∧ kv = .int .i64 k ∧ LineV wr (.slice LA line.length lc) line S' ∧ BoxAt KK wr q n (199000 - 10 * i - k) line2 [] S' ∧ (line2.Nodup ∧ ∀ x ∈ line, x ∈ line2) ∧ Below w.heap.size w wr) (fun kv _ => m - (intOf kv).toNat)
      case atStart => exact ⟨0, line, by omega, rfl, Hlv0.out, Hbx.out.less (by omega), ⟨Hold.out.nd, fun x hx => hx⟩, Hb.out⟩
      case round =>
        obtain ⟨k, line2, hk, rfl, hlv, hbox, hin, hb⟩ := hrel
        have Hlr := Lib.hid hlv
        have Hbr := Lib.hid hbox
        have Hin := Lib.hid hin
        have HBr := Lib.hid hb
        clear hbox hin hb Hlv0 Hbx Hb
        by_cases hkm : k < m
        · have k1 : (k : Int) < (m : Int) := by omega
          have hkl : k < line.length := by rw [← Hm.out]; exact hkm
          obtain ⟨a3, rfl, ha3, hc3⟩ := hlv.strs.2 k hkl
          obtain ⟨s, hs⟩ : ∃ s, s = line[k] := ⟨_, rfl⟩
          have hsl : s ∈ line := by rw [hs]; exact List.getElem_mem hkl
          rw [← hs] at hc3
          have hs2 := Hin.out.2 s hsl
          have hs512 : s.length ≤ 512 := H512.out s (Hold.out.sub s hsl)
          have Hs2 := Lib.hid hs2
          have hb1s := (Below.refl wr.heap.size wr).alloc (Nat.le_refl _) (.cells #[.string ⟨s.toArray⟩] 9)
          have cb : (wr.alloc (.cells #[.string ⟨s.toArray⟩] 9)).cell? ⟨wr.heap.size, 0, none⟩ = some (.string ⟨s.toArray⟩) := by rw [Lib.cell_of_heap (heap_alloc_new wr _)]; rfl
          have hof := Lib.hid (of_hash KK (some ⟨wr.heap.size, 0, none⟩) 1 s _ ((HL.out.below HBr.out).below hb1s) ⟨_, rfl, cb⟩ (by omega))
          have Hb1s := Lib.hid hb1s
          clear hs hsl hs2 ha3 hb1s cb hlv
          go_wp2_with fail
          refine hof.out.mono ?_
          rintro r wy ⟨rfl, hby⟩
          have hby2 : Below wr.heap.size wr wy := Hb1s.out.trans (hby.mono Hb1s.out.size)
          have hyes := Lib.hid (box_yes (k := 199000 - 10 * i - (k + 1)) ((Hbr.out.below hby2).less (by omega)) ((HL.out.below HBr.out).below hby2) Hs2.out)
          obtain ⟨hd, hhd⟩ : ∃ x, x = digV (hashB KK s) := ⟨_, rfl⟩
          rw [← hhd] at hyes ⊢
          have Hby := Lib.hid hby2
          clear hof hby hby2 hhd
          go_wp2_with fail
          refine hyes.out.mono ?_
          rintro r wv ⟨rfl, hbox5, hO5⟩
          have Hbox5 := Lib.hid hbox5
          have Hlv5 := Lib.hid ((Hlr.out.below Hby.out).step hO5 (fun x hx => .inl hx))
          have HB5x := Lib.hid ((HBr.out.trans (Hby.out.mono HBr.out.size)).trans (hO5.below (Nat.le_trans HBr.out.size Hby.out.size) Hlo.out))
          clear hbox5 hO5 hyes
          go_wp2_with fail
          go_roundw
          case rel => exact ⟨k + 1, mv line2 s, by omega, by go_num, Hlv5.out, Hbox5.out, ⟨mv_nodup Hin.out.1, fun x hx => (mv_perm Hin.out.1 Hs2.out).mem_iff.2 (Hin.out.2 x hx)⟩, HB5x.out⟩
          case measure => simp [intOf]; omega
        · obtain rfl : k = m := by omega
          have k1 : ¬ (k : Int) < (k : Int) := by omega
          go_wp2_with fail
          go_ret
          exact ⟨rfl, HBr.out⟩

theorem hiveOldest_law (x : Int) (A : Option Addr) (cap : Nat) (ts : List (List UInt8)) (A2 : Option Addr) (cap2 : Nat) (is : List Int) (w : World) (hL : Laid KK w) (xlo : -9223372036854775808 ≤ x) (xhi : x ≤ 9223372036854775807)
    (hS : Strs w w.heap.size A ts) (hl : ts.length ≤ maxLen) (he : ∀ s ∈ ts, s.length ≤ maxLen) (hI : Ints w w.heap.size A2 is) (hl2 : is.length ≤ maxLen) (hib : ∀ f ∈ is, -9223372036854775808 ≤ f ∧ f ≤ 9223372036854775807) :
    Calls Tryd.prog 7 #[.int .i64 x, .slice A ts.length cap, .slice A2 is.length cap2] w fun e w' => e = .returned (.bool true) ∧ Below w.heap.size w w' :=
  hiveOldest_core x A cap ts A2 cap2 is w hL (awake05_any w hL) xlo xhi hS hl hI hl2 hib
namespace HiveOldestLaw
open Go.ChangeShapes Go.WideShapes Go.ChangeAt
open Go.ChangeMaps (open_string shut_string)
set_option maxRecDepth 100000 in
theorem contract (H : Type) (enc : TypeId × Value → H) (W : World) (base : Nat) (args : Array Value) (ds gs : List (DataW H)) (before : List MemPlace)
    (hval : ∀ (j : Nat) t v, Tryd.f7.params[j]? = some t → args[j]? = some v → Value.okWide Tryd.prog W .any base t v)
    (hW : DataW.Whole enc Tryd.prog Tryd.f7.params.toList Rows.hiveOldestSpec.vars false W args.toList ds gs before) (hsz0 : (DataW.weightsEach Tryd.prog (Tryd.f7.params.toList ++ Rows.hiveOldestSpec.plain.varTypes Tryd.prog) (ds ++ gs)).all (· ≤ reachBytes) = true) (hLd : laidMetH Tryd.prog laid1 W) :
    Calls Tryd.prog 7 args W fun e W' => ∃ v, e = .returned v ∧ Rows.hiveOldestSpec.post enc Tryd.prog Tryd.f7 false true false false W args v W' := by
  have hW' := hW
  obtain ⟨p, q, hA0, hV, rfl, hfz, hnd⟩ := hW
  have hA : DataW.TrodAll enc Tryd.prog W 0 (fun _ => true) true Tryd.f7.params.toList args.toList ds p := hA0
  rw [Tryd.params7] at hA hval
  obtain ⟨v0, vs0, d0, ds0, p0, q0, hargs, rfl, rfl, h0, r0⟩ := trodAll_cons hA
  obtain ⟨v1, vs1, d1, ds1, p1, q1, rfl, rfl, rfl, h1, r1⟩ := trodAll_cons r0
  obtain ⟨v2, vs2, d2, ds2, p2, q2, rfl, rfl, rfl, h2, r2⟩ := trodAll_cons r1
  obtain ⟨rfl, rfl, rfl⟩ := trodAll_nil r2
  obtain rfl : args = #[v0, v1, v2] := by cases args; simp_all
  obtain ⟨rfl, rfl⟩ := trodVars_none hV
  obtain ⟨x0, rfl, hd0, _, w0⟩ := open_int Tryd.underlying3 (hval 0 3 v0 rfl rfl) h0
  obtain ⟨A1, c1, x1, rfl, hS1, hl1, he1, hb1⟩ := open_strs Tryd.underlying49 Tryd.underlying9 (by kernel_rfl) (hval 1 49 v1 rfl rfl) h1
  obtain ⟨A2, c2, x2, rfl, hS2, hl2, he2, hb2⟩ := open_intsA Tryd.underlying65 Tryd.underlying3 (by kernel_rfl) (hval 2 65 v2 rfl rfl) h2
  refine (hiveOldest_law x0 A1 c1 x1 A2 c2 x2 W (of_laid hLd) (wf_bounds w0).1 (wf_bounds w0).2 hS1 hl1 he1 hS2 hl2 he2).mono fun e W' ⟨he, hg⟩ => ?_
  subst he
  exact ⟨_, rfl, law_post (tb := 4) laidOut_ (of_decide_eq_true (by kernel_rfl)) Tryd.underlying4 (by kernel_rfl) rfl rfl hW' hg⟩

theorem door_met (os : Os) (args : Array Value) : laidMetH Tryd.prog laid1 ((World.doorLaid Tryd.prog 400 os).forCall (fun _ _ => 0) ⟨#[], args, []⟩).memory :=
  laidMetH_of_parts3 (fuel := 8) (laidMet_of_run' 8 (by kernel_rfl) (by kernel_rfl)) (by kernel_rfl) (by kernel_rfl)

set_option maxRecDepth 100000 in
theorem lifted (os : Os) (started : os.Started) (H : Type) (enc : TypeId × Value → H) :
    ReturnsInHanded {} Tryd.checked os 7 .any (fun w args => (Rows.hiveOldestSpec.pre enc Tryd.prog Tryd.f7 [] false w args ∧ laidMetH Tryd.prog laid1 w) ∧ sizedMet enc Tryd.prog Tryd.f7 (OpenSpec.ofChange Rows.hiveOldestSpec) false w args)
      (Rows.hiveOldestSpec.post enc Tryd.prog Tryd.f7 false true false false) := by
  refine returnsInHanded_of_change_and (C := Tryd.checked) (X := fun w _ => laidMetH Tryd.prog laid1 w) (fun _ _ _ hh h => h.of_heap hh) ownKnob_ started (by kernel_rfl) Tryd.func7
    (ChangeSpec.witness_shaped (enc := enc) (C := Tryd.checked) (os := os) (X := fun w _ => laidMetH Tryd.prog laid1 w) false (World.doorLaid Tryd.prog 400 os) #[.int .i64 0, .slice none 0 0, .slice none 0 0] 8 rfl (World.shaped_of_RefB (by kernel_rfl) (by kernel_rfl)) (by kernel_rfl) (by kernel_rfl) (by kernel_rfl) (door_met os _)) ?_
  intro W base args ds gs before hval hW _ hsz hLd _
  exact contract H enc W base args ds gs before hval hW hsz hLd

theorem said : Rows.HiveOldestSaid :=
  OpenClaim.holds_of_wide 7 Tryd.f7 rfl rfl rfl rfl rfl rfl rfl ⟨rfl, rfl, rfl, rfl, rfl⟩ rfl rfl rfl rfl rfl (by kernel_rfl) Tryd.func7 (by kernel_rfl)
    (of_decide_eq_true (by kernel_rfl)) (by unfold Func.isWrapper; first | (rw [if_pos (by decide +kernel)]; kernel_rfl) | (rw [if_neg (by decide +kernel)]; exact ⟨rfl, rfl⟩))
    (fun os started H enc _ => lifted os started H enc)

theorem proved : Rows.HiveOldestCardSaid :=
  Claim7.holds_tied_plain_at .later [] [.data] true Rows.hiveOldestCard.stood.harness false
    said (fun _ h => by cases h) (by kernel_rfl) (fun _ h => by cases h) hiveOldest_row_tie rfl ⟨rfl, rfl⟩ (by kernel_rfl) rfl
    (fun f fn hf hfn => by
      obtain rfl : f = 7 := Option.some.inj ((show Tryd.prog.funcNamed "apiary/apiarylaw05.HiveOldest" = some 7 by kernel_rfl).symm.trans hf) |>.symm
      obtain rfl : fn = Tryd.f7 := (Option.some.inj (Tryd.func7.symm.trans hfn)).symm
      exact ⟨by kernel_rfl, fun j t ht => by
        rw [Tryd.params7] at ht
        have hm : t ∈ [3, 49, 65] := by simpa using Array.mem_of_getElem? ht
        have hall : ([3, 49, 65].all fun u => !Tryd.prog.wantsStandIn u) = true := by kernel_rfl
        exact (show Tryd.prog.wantsStandIn t = false by simpa using List.all_eq_true.1 hall t hm)⟩)
    (by kernel_rfl)
end HiveOldestLaw
end Go.Proofs.YteihfoacdocgkaaDoor
