/- The store: Get, Set and Close under the invariant. -/
import Derived.Test.YtgejmgomliadmaaPuD
set_option linter.unusedVariables false
namespace Go.Proofs.Ytgejmgomliadmaa
open Go Go.RowKit

def cellAt (C : List Cel) (n x : Int) : Option Cel := C.find? (fun c => decide ((c.reg : Int) = n) && decide ((c.at_ : Int) = x))
def errOf (s : PSt) (C : List Cel) (n x f : Int) : Int :=
  if isOpenB s n then (match cellAt C n x with | none => 71 | some c => if 0 ≤ f ∧ f < c.wd then 0 else 72) else 70
theorem cellAt_some {C : List Cel} {n x : Int} {c : Cel} (h : cellAt C n x = some c) : c ∈ C ∧ (c.reg : Int) = n ∧ (c.at_ : Int) = x := by
  have h1 := List.find?_some h
  have h2 := List.mem_of_find?_eq_some h
  simp at h1
  exact ⟨h2, h1⟩
theorem cellAt_none {C : List Cel} {n x : Int} (h : cellAt C n x = none) : ∀ c ∈ C, ¬ ((c.reg : Int) = n ∧ (c.at_ : Int) = x) := by
  intro c hc hh
  have := List.find?_eq_none.1 h c hc
  simp [hh.1, hh.2] at this
theorem place_of_mem {l : List (Int × Int)} {x y : Int} (h : (l.map (·.1)).Pairwise (· < ·)) (hm : (x, y) ∈ l) : l[placeOf (ats l) x]? = some (x, y) := by
  obtain ⟨k, hk⟩ := List.mem_iff_getElem?.1 hm
  have hr : Rising (ats l) := rising_iff.2 h
  have hx : (ats l).getD k 0 = x := ats_get hk
  have hkl : k < (ats l).length := by rw [ats_length]; exact (List.getElem?_eq_some_iff.1 hk).1
  have : Place (ats l) x k := ⟨Nat.le_of_lt hkl, fun j hj => by rw [← hx]; exact hr j k hj hkl, fun j hj hjl => by
    rw [← hx]
    rcases Nat.lt_or_ge k j with h1 | h1
    · exact Int.le_of_lt (hr k j h1 hjl)
    · have : j = k := by omega
      rw [this]; exact Int.le_refl _⟩
  rw [placeOf_eq this]
  exact hk

theorem field_good {N : Nat} {s : PSt} {C : List Cel} (h : SGood N s C) (hN : N ≤ 200) (w : World) (ρ : Ghost) (a : Nat) (H : Rep w ρ a s) (n x f : Int) :
    Calls Try.prog 40 #[.pointer (some ⟨a, 0, none⟩), .int .i64 n, .int .i64 x, .int .i64 f] w (RetPost (.tuple #[.int .i64 (if errOf s C n x f = 0 then x + f else 0), .int .i64 (errOf s C n x f)]) w) := by
  unfold errOf
  by_cases ho : isOpenB s n = true
  · rw [if_pos ho]
    obtain ⟨i, r, rfl, hi, hr⟩ := isOpenB_some ho
    have hok := h.clsOk hN hi
    cases hc : cellAt C i x with
    | none =>
      refine field_none w ρ a s H i r hi hr hok x f ?_
      rintro ⟨h1, h2⟩
      have hg := List.getElem?_eq_getElem h1
      have h3 := ats_get hg
      rw [h2] at h3
      obtain ⟨c, hc1, hc2, hc3⟩ := h.of_cls hi (List.mem_of_getElem? hg)
      refine cellAt_none hc c hc1 ⟨by rw [hc2], ?_⟩
      have : (r.cls[placeOf (ats r.cls) x]).1 = c.pair.1 := by rw [hc3]
      rw [← h3] at this
      exact this.symm
    | some c =>
      obtain ⟨hc1, hc2, hc3⟩ := cellAt_some hc
      have hci : c.reg = i := by omega
      have hm := h.to_cls hc1 (by rw [hci]; exact hi)
      unfold Cel.pair at hm
      rw [hc3] at hm
      have hp := place_of_mem (h.up r (List.mem_of_getElem? hi)) hm
      by_cases hf : 0 ≤ f ∧ f < c.wd
      · simp only [if_pos hf]
        obtain ⟨_, _, _, _, hw, _⟩ := h.cel c hc1
        exact field_ok w ρ a s H i r hi hr hok x c.wd f hp hf.1 hf.2 (by omega)
      · simp only [if_neg hf]
        exact field_bad w ρ a s H i r hi hr hok x c.wd f hp (by omega)
  · rw [if_neg ho]
    exact field_closed w ρ a s H n x f (by simpa using ho)

theorem errOf_zero {s : PSt} {C : List Cel} {n x f : Int} (h : errOf s C n x f = 0) : isOpenB s n = true ∧ ∃ c ∈ C, (c.reg : Int) = n ∧ (c.at_ : Int) = x ∧ 0 ≤ f ∧ f < c.wd := by
  unfold errOf at h
  split at h
  · rename_i ho
    refine ⟨ho, ?_⟩
    cases hc : cellAt C n x with
    | none => rw [hc] at h; simp at h
    | some c =>
      rw [hc] at h
      obtain ⟨h1, h2, h3⟩ := cellAt_some hc
      dsimp only at h
      split at h
      · rename_i hf; exact ⟨c, h1, h2, h3, hf⟩
      · simp at h
  · simp at h

theorem get_good {N : Nat} {s : PSt} {C : List Cel} (h : SGood N s C) (hN : N ≤ 200) (w : World) (ρ : Ghost) (a : Nat) (H : Rep w ρ a s) (n x f : Int) :
    Calls Try.prog 17 #[.pointer (some ⟨a, 0, none⟩), .int .i64 n, .int .i64 x, .int .i64 f] w (RetPost (.tuple #[.int .i64 (if errOf s C n x f = 0 then s.data.getD (x + f).toNat 0 else 0), .int .i64 (errOf s C n x f)]) w) := by
  have hf := field_good h hN w ρ a H n x f
  by_cases he : errOf s C n x f = 0
  · rw [if_pos he] at hf ⊢
    rw [he] at hf ⊢
    obtain ⟨_, c, hc, _, h2, h3, h4⟩ := errOf_zero he
    have h5 := h.cel_fit hc
    have h6 := h.nnp
    exact get_ok w ρ a s H n x f (x + f).toNat (by omega) (by omega) (by omega) hf
  · rw [if_neg he] at hf ⊢
    exact get_err w 0 n x f _ _ he hf

/-- What Set leaves. -/
def setS (s : PSt) (C : List Cel) (n x f v : Int) : PSt := if errOf s C n x f = 0 then { s with data := s.data.set (x + f).toNat v } else s
theorem good_set {N : Nat} {s : PSt} {C : List Cel} (h : SGood N s C) (n x f v : Int) : SGood N (setS s C n x f v) C := by
  unfold setS
  split
  · exact good_data h _ (by simp)
  · exact h
def OpPost (ρ : Ghost) (a : Nat) (s : PSt) (v : Value) (w : World) (e : Ending) (w' : World) : Prop := ∃ ρ', e = .returned v ∧ Rep w' ρ' a s ∧ Step STag w ρ w' ρ'
theorem Rep.below {w w1 : World} {ρ : Ghost} {a : Nat} {s : PSt} (h : Rep w ρ a s) (hb : Below w.heap.size w w1) : Rep w1 ρ a s := by
  obtain ⟨vr, vp, vw, css, h⟩ := h
  exact ⟨vr, vp, vw, css, h.step (T := fun _ => False) ((Step.refl _ w ρ).of_below hb) (by simp)⟩
theorem set_good {N : Nat} {s : PSt} {C : List Cel} (h : SGood N s C) (hN : N ≤ 200) (w : World) (ρ : Ghost) (a : Nat) (H : Rep w ρ a s) (n x f v : Int) :
    Calls Try.prog 19 #[.pointer (some ⟨a, 0, none⟩), .int .i64 n, .int .i64 x, .int .i64 f, .int .i64 v] w (OpPost ρ a (setS s C n x f v) (.int .i64 (errOf s C n x f)) w) := by
  have hf := field_good h hN w ρ a H n x f
  unfold setS
  by_cases he : errOf s C n x f = 0
  · rw [if_pos he] at hf ⊢
    rw [he] at hf ⊢
    obtain ⟨_, c, hc, _, h2, h3, h4⟩ := errOf_zero he
    have h5 := h.cel_fit hc
    have h6 := h.nnp
    refine (set_ok w ρ a s H n x f v (x + f).toNat (by omega) (by omega) (by omega) hf).mono ?_
    rintro e w' ⟨h1, h2, h3⟩
    exact ⟨ρ, h1, h2, h3⟩
  · rw [if_neg he] at hf ⊢
    refine (set_err w n x f v _ _ he hf).mono ?_
    rintro e w' ⟨h1, h2⟩
    exact ⟨ρ, h1, H.below h2, (Step.refl _ w ρ).of_below h2⟩

/-- What Close leaves. -/
def closeP (s : PSt) (n : Int) : PSt := if isOpenB s n then closeS s n.toNat (s.regs.getD n.toNat PReg.none) else s
def closeC (s : PSt) (C : List Cel) (n : Int) : List Cel := if isOpenB s n then C.filter (fun c => c.reg != n.toNat) else C
def closeE (s : PSt) (n : Int) : Int := if isOpenB s n then 0 else 70
theorem close_good {N : Nat} {s : PSt} {C : List Cel} (h : SGood N s C) (hN : N ≤ 200) (n : Int) :
    SGood N (closeP s n) (closeC s C n) ∧ ∀ (w : World) (ρ : Ghost) (a : Nat), Rep w ρ a s → Calls Try.prog 13 #[.pointer (some ⟨a, 0, none⟩), .int .i64 n] w (OpPost ρ a (closeP s n) (.int .i64 (closeE s n)) w) := by
  unfold closeP closeC closeE
  by_cases ho : isOpenB s n = true
  · simp only [if_pos ho]
    obtain ⟨i, r, rfl, hi, hr⟩ := isOpenB_some ho
    have e1 : ((i : Nat) : Int).toNat = i := by omega
    have e2 : s.regs.getD i PReg.none = r := by rw [List.getD_eq_getElem?_getD, hi]; rfl
    rw [e1, e2]
    refine ⟨good_close h hi, fun w ρ a H => ?_⟩
    refine (close_any w ρ a s H (h.fine hN) i r hi hr ?_).mono ?_
    · intro d hd
      obtain ⟨c, hc, _, rfl⟩ := h.of_cls hi hd
      obtain ⟨_, _, _, h1, h2, _⟩ := h.cel c hc
      unfold Cel.pair; dsimp only; omega
    · rintro e w' ⟨ρ', h1, h2, h3⟩
      exact ⟨ρ', h1, h2, h3⟩
  · have ho' : isOpenB s n = false := by simpa using ho
    simp only [if_neg ho]
    refine ⟨h, fun w ρ a H => ?_⟩
    refine (close_none w ρ a s H n ho').mono ?_
    rintro e w' ⟨h1, rfl⟩
    exact ⟨ρ, h1, H, Step.refl _ _ _⟩

end Go.Proofs.Ytgejmgomliadmaa
