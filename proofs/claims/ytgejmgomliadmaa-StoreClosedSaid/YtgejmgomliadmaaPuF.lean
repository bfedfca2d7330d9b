/- The first run of free pages, in the store and in the reference. -/
import Derived.Test.YtgejmgomliadmaaPuE
set_option linter.unusedVariables false
namespace Go.Proofs.Ytgejmgomliadmaa
open Go

/-- p is the first of as many free pages, and no smaller one is. -/
def FreeAt (F : Nat → Prop) (many p : Nat) : Prop := ∀ q, p ≤ q → q < p + many → F q
theorem free_unique {F : Nat → Prop} {many p p' : Nat} (h1 : FreeAt F many p) (h2 : ∀ q, q < p → ¬ FreeAt F many q) (h3 : FreeAt F many p') (h4 : ∀ q, q < p' → ¬ FreeAt F many q) : p = p' := by
  rcases Nat.lt_trichotomy p p' with h | h | h
  · exact absurd h1 (h4 p h)
  · exact h
  · exact absurd h3 (h2 p' h)

/-! ### the store -/
theorem free_run {l : List Int} (h : Rising l) {many p : Nat} (hm : 1 ≤ many) (hf : FreeAt (fun q => (q : Int) ∈ l) many p) : ∃ k, k + many ≤ l.length ∧ runAt l many k = true ∧ l.getD k 0 = p := by
  obtain ⟨k, hk⟩ := List.mem_iff_getElem?.1 (hf p (Nat.le_refl _) (by omega))
  obtain ⟨hkl, hkv⟩ := List.getElem?_eq_some_iff.1 hk
  have key : ∀ j, j < many → k + j < l.length ∧ l.getD (k + j) 0 = (p : Int) + j := by
    intro j
    induction j with
    | zero => intro _; exact ⟨hkl, by rw [List.getD_eq_getElem?_getD, Nat.add_zero, hk]; simp⟩
    | succ j ih =>
      intro hj
      obtain ⟨h1, h2⟩ := ih (by omega)
      obtain ⟨m, hm⟩ := List.mem_iff_getElem?.1 (hf (p + (j + 1)) (by omega) (by omega))
      obtain ⟨hml, _⟩ := List.getElem?_eq_some_iff.1 hm
      have hmv : l.getD m 0 = ((p + (j + 1) : Nat) : Int) := by rw [List.getD_eq_getElem?_getD, hm]; rfl
      have hlt : k + j < m := by
        rcases Nat.lt_or_ge (k + j) m with h3 | h3
        · exact h3
        · exfalso
          rcases Nat.lt_or_ge m (k + j) with h4 | h4
          · have := h m (k + j) h4 h1; omega
          · have : m = k + j := by omega
            rw [this] at hmv; omega
      have h5 : k + (j + 1) < l.length := by omega
      refine ⟨h5, ?_⟩
      have h6 := h (k + j) (k + (j + 1)) (by omega) h5
      have h7 : l.getD (k + (j + 1)) 0 ≤ l.getD m 0 := by
        rcases Nat.lt_or_ge (k + (j + 1)) m with h8 | h8
        · exact Int.le_of_lt (h _ _ h8 hml)
        · have : m = k + (j + 1) := by omega
          rw [this]; exact Int.le_refl _
      push_cast at *
      omega
  obtain ⟨h1, h2⟩ := key (many - 1) (by omega)
  obtain ⟨_, h3⟩ := key 0 (by omega)
  refine ⟨k, by omega, ?_, by simpa using h3⟩
  rw [Nat.add_zero] at h3
  unfold runAt
  rw [show k + many - 1 = k + (many - 1) by omega, h2, h3]
  simp; omega

theorem runK_free {l : List Int} (h : Rising l) {many k f : Nat} (hm : 1 ≤ many) (hk : runK l many = some k) (hf : l.getD k 0 = f) : FreeAt (fun q => (q : Int) ∈ l) many f ∧ ∀ q, q < f → ¬ FreeAt (fun q => (q : Int) ∈ l) many q := by
  obtain ⟨h1, h2, h3⟩ := runK_some (.inr hm) hk
  have hs := seg_upTo h hm h1 h2
  rw [hf] at hs
  refine ⟨fun q hq1 hq2 => ?_, fun q hq hfr => ?_⟩
  · have : (q : Int) ∈ (l.drop k).take many := by rw [hs, mem_upTo]; omega
    exact List.mem_of_mem_drop (List.mem_of_mem_take this)
  · obtain ⟨k', g1, g2, g3⟩ := free_run h hm hfr
    rcases Nat.lt_or_ge k' k with h4 | h4
    · have := h3 k' h4; rw [g2] at this; cases this
    · rcases Nat.lt_or_ge k k' with h5 | h5
      · have := h k k' h5 (by omega); omega
      · have : k' = k := by omega
        rw [this] at g3; omega
theorem runK_nofree {l : List Int} (h : Rising l) {many : Nat} (hm : 1 ≤ many) (hk : runK l many = none) (q : Nat) : ¬ FreeAt (fun q => (q : Int) ∈ l) many q := by
  intro hf
  obtain ⟨k', g1, g2, g3⟩ := free_run h hm hf
  have := runK_none hk k' g1
  rw [g2] at this; cases this

/-! ### the reference -/
theorem rS_inv (own : List Int) (j : Nat) (hj : j ≤ own.length) : (∀ q, (rS own j).1 ≤ q → q < j → own.getD q 0 = -1) ∧ ((rS own j).1 = 0 ∨ own.getD ((rS own j).1 - 1) 0 ≠ -1) := by
  induction j with
  | zero => exact ⟨fun q _ h => by omega, .inl rfl⟩
  | succ j ih =>
    obtain ⟨h1, h2⟩ := ih (by omega)
    unfold rS
    split
    · rename_i h3
      refine ⟨fun q hq hq2 => ?_, h2⟩
      rcases Nat.lt_or_ge q j with h4 | h4
      · exact h1 q hq h4
      · have : q = j := by omega
        rw [this]; exact h3
    · rename_i h3
      refine ⟨fun q hq hq2 => ?_, .inr ?_⟩
      · dsimp only at hq; omega
      · simpa using h3
theorem rS_run {own : List Int} {j p : Nat} (hj : j ≤ own.length) (hp : p ≤ j) (h : ∀ q, p ≤ q → q < j → own.getD q 0 = -1) : j - p ≤ (rS own j).2 := by
  have h1 := rS_le own j
  obtain ⟨_, h2⟩ := rS_inv own j hj
  rcases h2 with h2 | h2
  · omega
  · rcases Nat.lt_or_ge p (rS own j).1 with h3 | h3
    · exact absurd (h ((rS own j).1 - 1) (by omega) (by omega)) h2
    · omega
theorem rS_step (own : List Int) (j : Nat) : (rS own (j + 1)).2 ≤ (rS own j).2 + 1 := by
  show (if own.getD j 0 = -1 then ((rS own j).1, (rS own j).2 + 1) else (j + 1, 0)).2 ≤ _
  split <;> simp
def OwnFree (own : List Int) (q : Nat) : Prop := q < own.length ∧ own.getD q 0 = -1
theorem rAt_spec (own : List Int) {many : Nat} (hm : 1 ≤ many) : (FreeAt (OwnFree own) many (rAt own many) ∧ ∀ q, q < rAt own many → ¬ FreeAt (OwnFree own) many q) ∨ (rAt own many = own.length ∧ ∀ q, ¬ FreeAt (OwnFree own) many q) := by
  cases hf : (List.range (own.length + 1)).find? (fun j => decide (many ≤ (rS own j).2)) with
  | some j =>
    have hr : rAt own many = (rS own j).1 := by rw [rAt, hf]
    rw [List.find?_range_eq_some] at hf
    obtain ⟨h1, h2, h3⟩ := hf
    have h2 := List.mem_range.1 h2
    have h1 : many ≤ (rS own j).2 := by simpa using h1
    have h3 : ∀ q, q < j → (rS own q).2 < many := fun q hq => by simpa using h3 q hq
    have hle := rS_le own j
    have hj0 : 1 ≤ j := by
      rcases Nat.eq_zero_or_pos j with h | h
      · rw [h] at h1; simp [rS] at h1; omega
      · exact h
    have hex : (rS own j).2 = many := by
      have h4 := h3 (j - 1) (by omega)
      have h5 := rS_step own (j - 1)
      rw [show j - 1 + 1 = j by omega] at h5
      omega
    left
    rw [hr]
    refine ⟨fun q hq1 hq2 => ⟨by omega, (rS_inv own j (by omega)).1 q hq1 (by omega)⟩, fun q hq hfr => ?_⟩
    have h6 := rS_run (own := own) (j := q + many) (p := q) (by omega) (by omega) (fun x hx1 hx2 => (hfr x hx1 hx2).2)
    have h7 := h3 (q + many) (by omega)
    omega
  | none =>
    have hr : rAt own many = own.length := by rw [rAt, hf]
    right
    refine ⟨hr, fun q hfr => ?_⟩
    have h1 := (hfr (q + many - 1) (by omega) (by omega)).1
    have h6 := rS_run (own := own) (j := q + many) (p := q) (by omega) (by omega) (fun x hx1 hx2 => (hfr x hx1 hx2).2)
    have h8 := List.find?_eq_none.1 hf (q + many) (List.mem_range.2 (by omega))
    simp at h8
    omega
theorem rFill_own {own dat : List Int} {at_ : Nat} (h : at_ ≤ own.length) (n : Int) (d : Nat) : (rFill own dat n at_ d).1.length = max own.length (at_ + d) ∧ ∀ p, (rFill own dat n at_ d).1.getD p 0 = if at_ ≤ p ∧ p < at_ + d then n else own.getD p 0 := by
  induction d with
  | zero =>
    refine ⟨by simp [rFill]; omega, fun p => ?_⟩
    rw [if_neg (by omega)]; rfl
  | succ d ih =>
    obtain ⟨h1, h2⟩ := ih
    unfold rFill
    split
    · rename_i hlt
      refine ⟨by simp; omega, fun p => ?_⟩
      dsimp only
      rw [List.getD_eq_getElem?_getD, List.getElem?_set]
      by_cases hp : at_ + d = p
      · rw [if_pos hp, if_pos (by omega), if_pos (by omega)]; rfl
      · rw [if_neg hp, ← List.getD_eq_getElem?_getD, h2]
        by_cases h5 : at_ ≤ p ∧ p < at_ + d
        · rw [if_pos h5, if_pos (by omega)]
        · rw [if_neg h5, if_neg (by omega)]
    · rename_i hge
      refine ⟨by simp; omega, fun p => ?_⟩
      dsimp only
      by_cases hp : p < (rFill own dat n at_ d).1.length
      · rw [List.getD_eq_getElem?_getD, List.getElem?_append_left hp, ← List.getD_eq_getElem?_getD, h2]
        by_cases h5 : at_ ≤ p ∧ p < at_ + d
        · rw [if_pos h5, if_pos (by omega)]
        · rw [if_neg h5, if_neg (by omega)]
      · rw [List.getD_eq_getElem?_getD, List.getElem?_append_right (by omega)]
        by_cases hp2 : p = (rFill own dat n at_ d).1.length
        · rw [hp2, Nat.sub_self, if_pos (by omega)]; rfl
        · rw [List.getElem?_eq_none (by simp; omega), if_neg (by omega)]
          rw [List.getD_eq_getElem?_getD, List.getElem?_eq_none (by omega)]
theorem rFill_dat {own dat : List Int} {at_ : Nat} (h : at_ ≤ own.length) (n : Int) (d : Nat) : (rFill own dat n at_ d).2 = dat ++ List.replicate (16 * (max own.length (at_ + d) - own.length)) 0 := by
  induction d with
  | zero => 
    have : max own.length (at_ + 0) - own.length = 0 := by omega
    rw [this]; simp [rFill]
  | succ d ih =>
    have hl := (rFill_own (dat := dat) h n d).1
    unfold rFill
    split
    · dsimp only; rw [ih]; congr 3; omega
    · dsimp only
      rw [ih, List.append_assoc, List.replicate_append_replicate]
      congr 2; omega

end Go.Proofs.Ytgejmgomliadmaa
