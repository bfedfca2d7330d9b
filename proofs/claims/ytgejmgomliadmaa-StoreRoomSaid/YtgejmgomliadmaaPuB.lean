/- The store as plain data: what each call leaves. -/
import Derived.Test.YtgejmgomliadmaaPuA
set_option linter.unusedVariables false
namespace Go.Proofs.Ytgejmgomliadmaa
open Go

theorem get_part {α : Type} (a b : List α) (x y : α) (j : Nat) : (a ++ y :: b)[j]? = if j = a.length then some y else (a ++ x :: b)[j]? := by
  by_cases h : j = a.length
  · subst h; simp
  · rw [if_neg h]
    by_cases h2 : j < a.length
    · rw [List.getElem?_append_left h2, List.getElem?_append_left h2]
    · rw [List.getElem?_append_right (by omega), List.getElem?_append_right (by omega)]
      obtain ⟨k, hk⟩ : ∃ k, j - a.length = k + 1 := ⟨j - a.length - 1, by omega⟩
      rw [hk]; rfl
theorem mem_part {α : Type} {a b : List α} {x y z : α} (h : z ∈ a ++ y :: b) : z = y ∨ z ∈ a ++ x :: b := by
  simp only [List.mem_append, List.mem_cons] at *
  rcases h with h | h | h
  · exact .inr (.inl h)
  · exact .inl h
  · exact .inr (.inr (.inr h))

theorem good_open {N : Nat} {s : PSt} {C : List Cel} (h : SGood N s C) : SGood (N + 1) { s with regs := s.regs ++ [PReg.new] } C := by
  have hget : ∀ (i : Nat) (r : PReg), (s.regs ++ [PReg.new])[i]? = some r → s.regs[i]? = some r ∨ (i = s.regs.length ∧ r = PReg.new) := by
    intro i r hi
    by_cases h1 : i < s.regs.length
    · rw [List.getElem?_append_left h1] at hi; exact .inl hi
    · rw [List.getElem?_append_right (by omega)] at hi
      have : i - s.regs.length = 0 := by
        rcases Nat.eq_zero_or_pos (i - s.regs.length) with h | h
        · exact h
        · rw [List.getElem?_eq_none (by simp; omega)] at hi; cases hi
      rw [this] at hi
      simp only [List.getElem?_cons_zero, Option.some.injEq] at hi
      exact .inr ⟨by omega, hi.symm⟩
  have hlt : ∀ c ∈ C, c.reg < s.regs.length := fun c hc => by
    obtain ⟨r, hr, _⟩ := h.cel c hc
    exact (List.getElem?_eq_some_iff.1 hr).1
  have hp : pagesOf { s with regs := s.regs ++ [PReg.new] } = pagesOf s := by simp [pagesOf, PReg.new]
  exact {
    nreg := by simp; exact h.nreg
    ncel := by have := h.ncel; omega
    nnp := by have := h.nnp; show s.np ≤ _; omega
    data := h.data
    perm := by rw [hp]; exact h.perm
    rise := h.rise
    used := by rw [hp]; exact h.used
    held := h.held
    shut := by
      intro r hr ho
      simp only [List.mem_append, List.mem_singleton] at hr
      rcases hr with hr | rfl
      · exact h.shut r hr ho
      · cases ho
    cls := by
      intro i r hi
      rcases hget i r hi with hi | ⟨rfl, rfl⟩
      · exact h.cls i r hi
      · have : C.filter (fun c => c.reg == s.regs.length) = [] := by
          rw [List.filter_eq_nil_iff]
          intro c hc
          have := hlt c hc
          simp; omega
        rw [this]; simp [PReg.new]
    up := by
      intro r hr
      simp only [List.mem_append, List.mem_singleton] at hr
      rcases hr with hr | rfl
      · exact h.up r hr
      · simp [PReg.new]
    cel := by
      intro c hc
      obtain ⟨r, hr, h2⟩ := h.cel c hc
      exact ⟨r, by rw [List.getElem?_append_left (hlt c hc)]; exact hr, h2⟩
    apart := h.apart
    cur := by
      intro i r hi
      rcases hget i r hi with hi | ⟨rfl, rfl⟩
      · exact h.cur i r hi
      · exact .inl ⟨rfl, rfl⟩ }

theorem good_data {N : Nat} {s : PSt} {C : List Cel} (h : SGood N s C) (l : List Int) (hl : l.length = s.data.length) : SGood N { s with data := l } C :=
  { h with data := by rw [hl]; exact h.data }

/-! ### Close -/
theorem sortL_perm (l : List Int) : (sortL l).Perm l := List.mergeSort_perm _ _
theorem sortL_rise {l : List Int} (h : l.Nodup) : (sortL l).Pairwise (· < ·) := by
  have h1 : (sortL l).Pairwise (fun x y => x ≤ y) := by
    have := List.pairwise_mergeSort (le := fun x y : Int => decide (x ≤ y)) (fun a b c => by simp; omega) (fun a b => by simp; omega) l
    exact this.imp (by simp)
  have h2 : (sortL l).Nodup := (sortL_perm l).nodup_iff.2 h
  exact (List.pairwise_and_iff.2 ⟨h1, h2⟩).imp (fun {a b} h => by have := h.1; have := h.2; omega)
theorem wordsOf_perm {l m : List (Int × Int)} (h : l.Perm m) : wordsOf l = wordsOf m := by
  unfold wordsOf
  induction h with
  | nil => rfl
  | cons x _ ih => simp [ih]
  | swap x y l => simp; omega
  | trans _ _ h1 h2 => rw [h1, h2]
theorem wordsOf_pair (C : List Cel) : wordsOf (C.map Cel.pair) = sumWd C := by
  unfold wordsOf sumWd
  induction C with
  | nil => rfl
  | cons c C ih => simp only [List.map_cons, List.sum_cons, ih, Cel.pair]; push_cast; rfl
theorem sumWd_filter (C : List Cel) (p : Cel → Bool) : sumWd (C.filter p) + sumWd (C.filter (fun c => !p c)) = sumWd C := by
  unfold sumWd
  induction C with
  | nil => rfl
  | cons c C ih =>
    cases h : p c <;> simp [h] <;> omega
theorem good_close {N : Nat} {s : PSt} {C : List Cel} (h : SGood N s C) {i : Nat} {r : PReg} (hi : s.regs[i]? = some r) : SGood N (closeS s i r) (C.filter (fun c => c.reg != i)) := by
  obtain ⟨a, b, hab, rfl⟩ := part_at hi
  have hR : (closeS s a.length r).regs = a ++ PReg.none :: b := by simp [closeS, hab]
  have hget : ∀ (j : Nat) (r' : PReg), (a ++ PReg.none :: b)[j]? = some r' → (j = a.length ∧ r' = PReg.none) ∨ (j ≠ a.length ∧ s.regs[j]? = some r') := by
    intro j r' hj
    rw [get_part a b r PReg.none j] at hj
    split at hj
    · exact .inl ⟨by assumption, by cases hj; rfl⟩
    · exact .inr ⟨by assumption, by rw [hab]; exact hj⟩
  have hpg : pagesOf s = a.flatMap PReg.pgs ++ (r.pgs ++ b.flatMap PReg.pgs) := by simp [pagesOf, hab]
  have hpg2 : pagesOf (closeS s a.length r) = a.flatMap PReg.pgs ++ b.flatMap PReg.pgs := by
    unfold pagesOf; rw [hR]; simp [PReg.none]
  have hnd := h.nodup
  have hperm : (s.wait ++ pagesOf s).Perm ((s.wait ++ r.pgs) ++ (a.flatMap PReg.pgs ++ b.flatMap PReg.pgs)) := by
    rw [hpg, List.append_assoc]
    refine List.Perm.append_left _ ?_
    rw [← List.append_assoc, ← List.append_assoc]
    exact List.Perm.append_right _ List.perm_append_comm
  have hmem : ∀ r' ∈ (closeS s a.length r).regs, r' = PReg.none ∨ r' ∈ s.regs := by
    intro r' hr'
    rw [hR] at hr'
    rw [hab]
    exact mem_part hr'
  exact {
    nreg := by rw [hR]; have := h.nreg; rw [hab] at this; simpa using this
    ncel := Nat.le_trans (List.length_filter_le _ _) h.ncel
    nnp := h.nnp
    data := h.data
    perm := by
      rw [hpg2]
      refine List.Perm.trans ?_ h.perm
      exact List.Perm.trans (List.Perm.append_right _ (sortL_perm _)) hperm.symm
    rise := sortL_rise (List.nodup_append.1 (hperm.nodup_iff.1 hnd)).1
    used := by
      rw [hpg2]
      show s.used - r.pgs.length = _
      rw [h.used, hpg]
      simp only [List.length_append]
      push_cast; omega
    held := by
      show s.held - wordsOf r.cls = _
      rw [h.held, wordsOf_perm (h.cls _ r hi), wordsOf_pair]
      have := sumWd_filter C (fun c => c.reg == a.length)
      have e : (fun c : Cel => c.reg != a.length) = (fun c => !(c.reg == a.length)) := rfl
      rw [e]; omega
    shut := by
      intro r' hr' ho
      rcases hmem r' hr' with rfl | hr'
      · rfl
      · exact h.shut r' hr' ho
    cls := by
      intro j r' hj
      rw [hR] at hj
      rcases hget j r' hj with ⟨rfl, rfl⟩ | ⟨hne, hj⟩
      · have : (C.filter (fun c => c.reg != a.length)).filter (fun c => c.reg == a.length) = [] := by
          rw [List.filter_eq_nil_iff]
          intro c hc
          have := (List.mem_filter.1 hc).2
          simpa using this
        rw [this]; simp [PReg.none]
      · have : (C.filter (fun c => c.reg != a.length)).filter (fun c => c.reg == j) = C.filter (fun c => c.reg == j) := by
          rw [List.filter_filter]
          refine List.filter_congr ?_
          intro c _
          by_cases h1 : c.reg = j <;> simp [h1, hne]
        rw [this]; exact h.cls j r' hj
    up := by
      intro r' hr'
      rcases hmem r' hr' with rfl | hr'
      · simp [PReg.none]
      · exact h.up r' hr'
    cel := by
      intro c hc
      obtain ⟨hc1, hc2⟩ := List.mem_filter.1 hc
      obtain ⟨r', hr', h2⟩ := h.cel c hc1
      refine ⟨r', ?_, h2⟩
      rw [hR, get_part a b r PReg.none, if_neg (by simpa using hc2), ← hab]
      exact hr'
    apart := h.apart.sublist List.filter_sublist
    cur := by
      intro j r' hj
      rw [hR] at hj
      rcases hget j r' hj with ⟨rfl, rfl⟩ | ⟨hne, hj⟩
      · exact .inl ⟨rfl, rfl⟩
      · rcases h.cur j r' hj with h1 | ⟨q, f, h1, h2, h3, h4, h5, h6⟩
        · exact .inl h1
        · exact .inr ⟨q, f, h1, h2, h3, h4, h5, fun c hc => h6 c (List.mem_filter.1 hc).1⟩ }

end Go.Proofs.Ytgejmgomliadmaa
