/-
  Layer 5, plain: what pins and what the oldest text mean for a line of texts.
-/
import Derived.Test.YteihfoacdocgkaaDoorHwD
set_option linter.unusedVariables false
set_option linter.unusedSimpArgs false
namespace Go.Proofs.YteihfoacdocgkaaDoor
open Go.RowKit Pl Sh

theorem len_subset {α : Type} [BEq α] [LawfulBEq α] : ∀ {l1 l2 : List α}, l1.Nodup → (∀ x ∈ l1, x ∈ l2) → l1.length ≤ l2.length
  | [], l2, _, _ => Nat.zero_le _
  | a :: l, l2, h, hs => by
    obtain ⟨h1, h2⟩ := List.nodup_cons.1 h
    have ha : a ∈ l2 := hs a (by simp)
    have := len_subset (l2 := l2.erase a) h2 (fun x hx => (List.mem_erase_of_ne (fun e : x = a => h1 (by rw [← e]; exact hx))).2 (hs x (by simp [hx])))
    rw [List.length_erase_of_mem ha] at this
    have hp : 0 < l2.length := List.length_pos_of_mem ha
    simp only [List.length_cons]
    omega
theorem filter_out {line : List (List UInt8)} {b : List UInt8} (hb : b ∉ line) : line.filter (fun x => decide (x ≠ b)) = line := List.filter_eq_self.2 (fun x hx => by simpa using fun e : x = b => hb (e ▸ hx))
theorem mv_perm {line : List (List UInt8)} {b : List UInt8} (hn : line.Nodup) (hb : b ∈ line) : (mv line b).Perm line := by
  unfold mv
  have h1 : line.erase b = line.filter (fun x => decide (x ≠ b)) := by
    rw [hn.erase_eq_filter]
    exact List.filter_congr (fun x hx => by by_cases e : x = b <;> simp [e])
  rw [← h1]
  exact (List.perm_append_comm).trans (List.perm_cons_erase hb).symm
theorem mv_nodup {line : List (List UInt8)} {b : List UInt8} (hn : line.Nodup) : (mv line b).Nodup := by
  unfold mv
  refine List.nodup_append.2 ⟨hn.sublist List.filter_sublist, by simp, fun x hx y hy e => ?_⟩
  simp only [List.mem_singleton] at hy
  have := (List.mem_filter.1 hx).2
  subst hy
  subst e
  simp at this
theorem put_nodup {K : List Int} {n : Nat} {pins line : List (List UInt8)} {b : List UInt8} (hn : line.Nodup) : (putA K n pins line b).2.Nodup := by
  have app : ∀ l : List (List UInt8), l.Nodup → b ∉ l → (l ++ [b]).Nodup := fun l h1 h2 => List.nodup_append.2 ⟨h1, by simp, fun x hx y hy e => by simp only [List.mem_singleton] at hy; subst hy; subst e; exact h2 hx⟩
  unfold putA
  by_cases hb : b ∈ line
  · rw [if_pos hb]; exact mv_nodup hn
  · rw [if_neg hb]
    by_cases hl : line.length < n
    · rw [if_pos hl]; exact app _ hn hb
    · rw [if_neg hl]
      cases line.find? (fun x => decide (hashB K x ∉ pins)) with
      | none => exact hn
      | some x => exact app _ (hn.sublist List.filter_sublist) (fun h => hb (List.mem_filter.1 h).1)
theorem put_sub {K : List Int} {n : Nat} {pins line : List (List UInt8)} {b : List UInt8} : ∀ x ∈ (putA K n pins line b).2, x ∈ line ∨ x = b := by
  intro x hx
  unfold putA at hx
  by_cases hb : b ∈ line
  · rw [if_pos hb] at hx
    unfold mv at hx
    rcases List.mem_append.1 hx with h | h
    · exact .inl (List.mem_filter.1 h).1
    · right; simpa using h
  · rw [if_neg hb] at hx
    by_cases hl : line.length < n
    · rw [if_pos hl] at hx
      rcases List.mem_append.1 hx with h | h
      · exact .inl h
      · right; simpa using h
    · rw [if_neg hl] at hx
      cases hf : line.find? (fun x => decide (hashB K x ∉ pins)) with
      | none => rw [hf] at hx; exact .inl hx
      | some y =>
        rw [hf] at hx
        rcases List.mem_append.1 hx with h | h
        · exact .inl (List.mem_filter.1 h).1
        · right; simpa using h
theorem filter_len {line : List (List UInt8)} {x : List UInt8} (hn : line.Nodup) (hx : x ∈ line) : (line.filter (fun y => decide (y ≠ x))).length + 1 = line.length := by
  have := (mv_perm hn hx).length_eq
  unfold mv at this
  simpa using this
theorem put_len {K : List Int} {n : Nat} {pins line : List (List UInt8)} {b : List UInt8} (hn : line.Nodup) (hl : line.length ≤ n) : (putA K n pins line b).2.length ≤ n ∧ ((putA K n pins line b).1 ≠ 0 → (putA K n pins line b).1 = 11 ∧ (putA K n pins line b).2 = line) := by
  unfold putA
  by_cases hb : b ∈ line
  · rw [if_pos hb]
    exact ⟨by show (mv line b).length ≤ n; rw [(mv_perm hn hb).length_eq]; exact hl, fun h => absurd rfl h⟩
  · rw [if_neg hb]
    by_cases h : line.length < n
    · rw [if_pos h]; exact ⟨by simp; omega, fun h => absurd rfl h⟩
    · rw [if_neg h]
      cases hf : line.find? (fun x => decide (hashB K x ∉ pins)) with
      | none => exact ⟨hl, fun _ => ⟨rfl, rfl⟩⟩
      | some x =>
        have := filter_len hn (List.mem_of_find?_eq_some hf)
        exact ⟨by simp only [List.length_append, List.length_singleton]; omega, fun h => absurd rfl h⟩
/-- without pins: the oldest goes -/
theorem put_old {K : List Int} {n : Nat} {line : List (List UInt8)} {b : List UInt8} (hn : line.Nodup) (hl : line.length ≤ n) (h0 : 0 < n) :
    putA K n [] line b = (0, if n < (mv line b).length then (mv line b).tail else mv line b) := by
  unfold putA
  by_cases hb : b ∈ line
  · rw [if_pos hb, if_neg (by rw [(mv_perm hn hb).length_eq]; omega)]
  · have hm : mv line b = line ++ [b] := by unfold mv; rw [filter_out hb]
    rw [if_neg hb, hm]
    by_cases h : line.length < n
    · rw [if_pos h, if_neg (by simp; omega)]
    · rw [if_neg h, if_pos (by simp; omega)]
      cases line with
      | nil => simp at h; omega
      | cons a l =>
        have hf : (a :: l).find? (fun x => decide (hashB K x ∉ [])) = some a := by rw [List.find?_cons_of_pos (by simp)]
        rw [hf]
        have ha : a ∉ l := (List.nodup_cons.1 hn).1
        simp only [List.cons_append, List.tail_cons]
        rw [List.filter_cons_of_neg (by simp), filter_out ha]
/-- while pins are laid: all that is there is pinned -/
theorem put_pins {K : List Int} {n : Nat} {pins line : List (List UInt8)} {b : List UInt8} (hn : line.Nodup) (hl : line.length ≤ n) (hp : ∀ x ∈ line, hashB K x ∈ pins) :
    ((putA K n pins line b).1 = 0 ↔ b ∈ line ∨ line.length < n) ∧ ((putA K n pins line b).1 = 0 → (putA K n pins line b).2.Perm (if b ∈ line then line else line ++ [b])) := by
  unfold putA
  by_cases hb : b ∈ line
  · rw [if_pos hb, if_pos hb]
    exact ⟨⟨fun _ => .inl hb, fun _ => rfl⟩, fun _ => mv_perm hn hb⟩
  · rw [if_neg hb, if_neg hb]
    by_cases h : line.length < n
    · rw [if_pos h]
      exact ⟨⟨fun _ => .inr h, fun _ => rfl⟩, fun _ => List.Perm.refl _⟩
    · rw [if_neg h]
      have hf : line.find? (fun x => decide (hashB K x ∉ pins)) = none := List.find?_eq_none.2 (fun x hx => by simpa using hp x hx)
      rw [hf]
      exact ⟨⟨fun h => (by cases h), fun h' => (by rcases h' with h' | h'; exact absurd h' hb; exact absurd h' h)⟩, fun h => (by cases h)⟩
/-- what is pinned stays -/
theorem put_kept {K : List Int} {n : Nat} {pins line kept : List (List UInt8)} {b : List UInt8} (hn : line.Nodup) (hl : line.length ≤ n) (hkn : kept.Nodup) (hk : ∀ x ∈ kept, x ∈ line ∧ hashB K x ∈ pins) (hp : ∀ x ∈ line, hashB K x ∈ pins → x ∈ kept) :
    ((putA K n pins line b).1 = 0 ↔ b ∈ kept ∨ kept.length < n) ∧ ∀ x ∈ kept, x ∈ (putA K n pins line b).2 := by
  have hlen : kept.length ≤ line.length := len_subset hkn (fun x hx => (hk x hx).1)
  have hlt : ∀ y ∈ line, y ∉ kept → kept.length < line.length := fun y hy hyk => by
    have : (y :: kept).length ≤ line.length := len_subset (List.nodup_cons.2 ⟨hyk, hkn⟩) (fun x hx => by
      rcases List.mem_cons.1 hx with rfl | hx
      · exact hy
      · exact (hk x hx).1)
    simp only [List.length_cons] at this
    omega
  unfold putA
  by_cases hb : b ∈ line
  · rw [if_pos hb]
    refine ⟨⟨fun _ => ?_, fun _ => rfl⟩, fun x hx => (mv_perm hn hb).mem_iff.2 (hk x hx).1⟩
    by_cases hbk : b ∈ kept
    · exact .inl hbk
    · exact .inr (Nat.lt_of_lt_of_le (hlt b hb hbk) hl)
  · rw [if_neg hb]
    by_cases h : line.length < n
    · rw [if_pos h]
      exact ⟨⟨fun _ => .inr (by omega), fun _ => rfl⟩, fun x hx => List.mem_append_left _ (hk x hx).1⟩
    · rw [if_neg h]
      cases hf : line.find? (fun x => decide (hashB K x ∉ pins)) with
      | some y =>
        have hyL := List.mem_of_find?_eq_some hf
        have hyp : hashB K y ∉ pins := by simpa using List.find?_some hf
        have hyk : y ∉ kept := fun hm => hyp (hk y hm).2
        refine ⟨⟨fun _ => .inr (Nat.lt_of_lt_of_le (hlt y hyL hyk) hl), fun _ => rfl⟩, fun x hx => List.mem_append_left _ (List.mem_filter.2 ⟨(hk x hx).1, ?_⟩)⟩
        have : x ≠ y := fun e => hyk (e ▸ hx)
        simpa using this
      | none =>
        have hall : ∀ x ∈ line, x ∈ kept := fun x hx => hp x hx (by have := List.find?_eq_none.1 hf x hx; simpa using this)
        have hge : line.length ≤ kept.length := len_subset hn hall
        refine ⟨⟨fun h => (by cases h), fun h' => ?_⟩, fun x hx => (hk x hx).1⟩
        rcases h' with h' | h'
        · exact absurd (hk b h').1 hb
        · omega
end Go.Proofs.YteihfoacdocgkaaDoor
