/-
  Layer 5: a store that is opened on a new shelf; how pins are laid, plain.
-/
import Derived.Test.YteihfoacdocgkaaDoorHwE
set_option linter.unusedVariables false
set_option linter.unusedSimpArgs false
namespace Go.Proofs.YteihfoacdocgkaaDoor
open Go.RowKit Pl Sh
attribute [local go_sem] Lb.ba_get Lb.ba_cut Lb.ba_add Lb.ba_size Lb.take_rest

def BoxNewPost (K : List Int) (n : Nat) (w : World) (e : Ending) (w' : World) : Prop :=
  ∃ (q : HvP) (S : List Nat), e = .returned (.tuple #[.pointer (some ⟨q.p, 0, none⟩), .int .i64 0]) ∧ BoxAt K w' q n 200000 [] [] S ∧ (∀ x ∈ S, x = w.heap.size - 1 ∨ x = w.heap.size - 2 ∨ w.heap.size ≤ x) ∧ Below w.heap.size w w'
theorem box_new (K : List Int) (n : Nat) (w0 w : World) (hn : n ≤ 128) (h : ShAt w (w0.heap.size + 1) w0.heap.size (St.new n)) :
    Calls Tryd.prog 19 #[.pointer (some ⟨w0.heap.size + 1, 0, none⟩)] w fun e w' => ∃ (q : HvP) (S : List Nat), e = .returned (.tuple #[.pointer (some ⟨q.p, 0, none⟩), .int .i64 0]) ∧ BoxAt K w' q n 200000 [] [] S ∧ (∀ x ∈ S, w0.heap.size ≤ x) ∧ Below w.heap.size w w' ∧ q.b = w0.heap.size + 1 ∧ q.g = w0.heap.size := by
  have hop := open_empty (w0.heap.size + 1) w0.heap.size (St.new n) w h rfl (by simp [St.new]; exact hn) (fun i hi => new_read n i (by simpa [St.new] using hi))
  have hl1 : w0.heap.size + 1 < w.heap.size := heap_lt h.pw
  refine hop.mono ?_
  rintro e w' ⟨q, hqb, hqg, rfl, hat, hnw, hB⟩
  refine ⟨q, q.own [], rfl, ⟨_, hat, ⟨⟨rfl, rfl, by show 0 ≤ _; omega, by show 0 < 100000; omega, by simp [St.new]⟩, by omega, rfl, rfl, by show 0 + 200000 < 900000; omega, (by show ((0 : Nat) : Int) < 50000; decide), (fun e he => by cases he), List.Pairwise.nil, ⟨[], List.Perm.refl _, List.Pairwise.nil, rfl⟩⟩, rfl, fun x hx => hx, hat.lt⟩, fun x hx => ?_, hB, hqb, hqg⟩
  simp only [HvP.own, List.map_nil, List.mem_cons, List.not_mem_nil, or_false] at hx
  simp only [List.mem_cons, List.not_mem_nil, or_false, forall_eq_or_imp, forall_eq] at hnw
  omega

/-- while pins are laid -/
structure Laying (K : List Int) (n : Nat) (ps : List (List UInt8)) (i : Nat) (kept line P : List (List UInt8)) : Prop where
  perm : line.Perm kept
  nd : kept.Nodup
  len : kept.length ≤ n
  pin : ∀ x ∈ kept, hashB K x ∈ P
  only : ∀ y ∈ P, ∃ x ∈ kept, hashB K x = y
  sub : ∀ x ∈ kept, x ∈ ps
theorem laying_start (K : List Int) (n : Nat) (ps : List (List UInt8)) : Laying K n ps 0 [] [] [] := ⟨List.Perm.refl _, List.nodup_nil, Nat.zero_le _, (fun x h => by cases h), (fun x h => by cases h), (fun x h => by cases h)⟩
theorem Laying.line_nd {K : List Int} {n i : Nat} {ps kept line P : List (List UInt8)} (h : Laying K n ps i kept line P) : line.Nodup := h.perm.nodup_iff.2 h.nd
theorem Laying.line_len {K : List Int} {n i : Nat} {ps kept line P : List (List UInt8)} (h : Laying K n ps i kept line P) : line.length = kept.length := h.perm.length_eq
theorem Laying.ok {K : List Int} {n i : Nat} {ps kept line P : List (List UInt8)} (h : Laying K n ps i kept line P) (b : List UInt8) : (putA K n P line b).1 = 0 ↔ b ∈ kept ∨ kept.length < n := by
  have := (put_pins (b := b) h.line_nd (by rw [h.line_len]; exact h.len) (fun x hx => h.pin x (h.perm.mem_iff.1 hx))).1
  rw [this, h.line_len, h.perm.mem_iff]
def keptAdd (kept : List (List UInt8)) (b : List UInt8) : List (List UInt8) := if b ∈ kept then kept else kept ++ [b]
theorem Laying.step {K : List Int} {n i : Nat} {ps kept line P : List (List UInt8)} {b : List UInt8} (h : Laying K n ps i kept line P) (hb : b ∈ ps) (h0 : (putA K n P line b).1 = 0) : Laying K n ps (i + 1) (keptAdd kept b) (putA K n P line b).2 (pinAdd P (hashB K b)) := by
  have hp := (put_pins (b := b) h.line_nd (by rw [h.line_len]; exact h.len) (fun x hx => h.pin x (h.perm.mem_iff.1 hx))).2 h0
  have hok := (h.ok b).1 h0
  have hmp : ∀ y, y ∈ pinAdd P (hashB K b) ↔ y ∈ P ∨ y = hashB K b := fun y => by
    unfold pinAdd
    by_cases e : hashB K b ∈ P
    · rw [if_pos e]
      exact ⟨.inl, fun h => by rcases h with h | h; exact h; rw [h]; exact e⟩
    · rw [if_neg e]; simp
  unfold keptAdd
  by_cases hk : b ∈ kept
  · rw [if_pos (h.perm.mem_iff.2 hk)] at hp
    rw [if_pos hk]
    exact ⟨hp.trans h.perm, h.nd, h.len, fun x hx => (hmp _).2 (.inl (h.pin x hx)), fun y hy => by rcases (hmp y).1 hy with h1 | h1; exact h.only y h1; exact ⟨b, hk, h1.symm⟩, h.sub⟩
  · rw [if_neg (fun hm => hk (h.perm.mem_iff.1 hm))] at hp
    rw [if_neg hk]
    have hl : kept.length < n := by rcases hok with h1 | h1; exact absurd h1 hk; exact h1
    refine ⟨hp.trans (h.perm.append_right _), List.nodup_append.2 ⟨h.nd, by simp, fun x hx y hy e => by simp only [List.mem_singleton] at hy; subst hy; subst e; exact hk hx⟩, by simp; omega, fun x hx => (hmp _).2 ?_, fun y hy => ?_, fun x hx => ?_⟩
    · rcases List.mem_append.1 hx with h1 | h1
      · exact .inl (h.pin x h1)
      · simp only [List.mem_singleton] at h1; right; rw [h1]
    · rcases (hmp y).1 hy with h1 | h1
      · obtain ⟨x, hx, e⟩ := h.only y h1; exact ⟨x, List.mem_append_left _ hx, e⟩
      · exact ⟨b, by simp, h1.symm⟩
    · rcases List.mem_append.1 hx with h1 | h1
      · exact h.sub x h1
      · simp only [List.mem_singleton] at h1; rw [h1]; exact hb
theorem Laying.stay {K : List Int} {n i : Nat} {ps kept line P : List (List UInt8)} {b : List UInt8} (h : Laying K n ps i kept line P) (h0 : (putA K n P line b).1 ≠ 0) : (putA K n P line b).1 = 11 ∧ Laying K n ps (i + 1) kept (putA K n P line b).2 P := by
  obtain ⟨h1, h2⟩ := (put_len (K := K) (pins := P) (b := b) h.line_nd (by rw [h.line_len]; exact h.len)).2 h0
  exact ⟨h1, by rw [h2]; exact ⟨h.perm, h.nd, h.len, h.pin, h.only, h.sub⟩⟩
/-- while texts are put beside what is pinned -/
structure Beside (K : List Int) (n : Nat) (all kept line P : List (List UInt8)) : Prop where
  nd : line.Nodup
  knd : kept.Nodup
  len : line.length ≤ n
  kept_in : ∀ x ∈ kept, x ∈ line ∧ hashB K x ∈ P
  pinned : ∀ x ∈ line, hashB K x ∈ P → x ∈ kept
  sub : ∀ x ∈ line, x ∈ all
theorem Beside.start {K : List Int} {n i : Nat} {ps all kept line P : List (List UInt8)} (h : Laying K n ps i kept line P) (hs : ∀ x ∈ ps, x ∈ all) : Beside K n all kept line P :=
  ⟨h.line_nd, h.nd, by rw [h.line_len]; exact h.len, fun x hx => ⟨h.perm.mem_iff.2 hx, h.pin x hx⟩, fun x hx _ => h.perm.mem_iff.1 hx, fun x hx => hs x (h.sub x (h.perm.mem_iff.1 hx))⟩
theorem Beside.put {K : List Int} {n : Nat} {all kept line P : List (List UInt8)} {b : List UInt8} (h : Beside K n all kept line P) (hb : b ∈ all) (hinj : ∀ x ∈ all, ∀ y ∈ all, hashB K x = hashB K y → x = y) (hP : ∀ y ∈ P, ∃ x ∈ kept, hashB K x = y) :
    ((putA K n P line b).1 = 0 ↔ b ∈ kept ∨ kept.length < n) ∧ Beside K n all kept (putA K n P line b).2 P := by
  obtain ⟨h1, h2⟩ := put_kept (b := b) h.nd h.len h.knd h.kept_in h.pinned
  have hsub : ∀ x ∈ (putA K n P line b).2, x ∈ all := fun x hx => by
    rcases put_sub x hx with h3 | h3
    · exact h.sub x h3
    · rw [h3]; exact hb
  refine ⟨h1, put_nodup h.nd, h.knd, (put_len h.nd h.len).1, fun x hx => ⟨h2 x hx, (h.kept_in x hx).2⟩, fun x hx hxp => ?_, hsub⟩
  obtain ⟨y, hy, e⟩ := hP _ hxp
  rw [← hinj y (h.sub y (h.kept_in y hy).1) x (hsub x hx) e]
  exact hy
theorem Beside.mv {K : List Int} {n : Nat} {all kept line P : List (List UInt8)} {b : List UInt8} (h : Beside K n all kept line P) (hb : b ∈ line) : Beside K n all kept (mv line b) P := by
  have hp := mv_perm h.nd hb
  exact ⟨mv_nodup h.nd, h.knd, by rw [hp.length_eq]; exact h.len, fun x hx => ⟨hp.mem_iff.2 (h.kept_in x hx).1, (h.kept_in x hx).2⟩, fun x hx => h.pinned x (hp.mem_iff.1 hx), fun x hx => h.sub x (hp.mem_iff.1 hx)⟩
end Go.Proofs.YteihfoacdocgkaaDoor
