/- Library functions at the store's types: isNaN, Less, BinarySearch; the two closures that compare cells; BinarySearchFunc. -/
import Derived.Test.YtgejmgomliadmaaStB
set_option linter.unusedVariables false
namespace Go.Proofs.Ytgejmgomliadmaa
open Go Go.RowKit

theorem nan1_any (w : World) (x : Int) : Calls Try.prog 68 #[.int .i64 x] w fun e w' => e = .returned (.bool false) ∧ w = w' := by
  go_enter Try.func68, Try.ntmps68
  go_wp2
  go_ret
  exact ⟨by simp, rfl⟩
theorem nan2_any (w : World) (x : Int) : Calls Try.prog 61 #[.int .i64 x] w fun e w' => e = .returned (.bool false) ∧ w = w' := by
  go_enter Try.func61, Try.ntmps61
  go_wp2
  go_ret
  exact ⟨by simp, rfl⟩
theorem less_any (w : World) (x y : Int) : Calls Try.prog 56 #[.int .i64 x, .int .i64 y] w fun e w' => e = .returned (.bool (decide (x < y))) ∧ w = w' := by
  go_enter Try.func56, Try.ntmps56
  go_wp2_with (go_at_call 68; refine (nan1_any _ _).mono ?_; rintro e w' ⟨rfl, rfl⟩)
  go_ret
  exact ⟨by simp, rfl⟩

/-- Where x stands in a rising list. -/
structure Place (l : List Int) (x : Int) (k : Nat) : Prop where
  le : k ≤ l.length
  lo : ∀ j, j < k → l.getD j 0 < x
  hi : ∀ j, k ≤ j → j < l.length → x ≤ l.getD j 0

def SearchPost (l : List Int) (x : Int) (w : World) (e : Ending) (w' : World) : Prop := ∃ (k : Nat) (b : Bool), e = .returned (.tuple #[.int .i64 k, .bool b]) ∧ Place l x k ∧ w = w'
def Rising (l : List Int) : Prop := ∀ i j, i < j → j < l.length → l.getD i 0 < l.getD j 0

theorem search_any (w : World) (ρ : Ghost) (t : Tag) (A : Option Addr) (c : Nat) (l : List Int) (hO : OwnSl w ρ t 3 1 (.slice A l.length c) l.length (ints l)) (x : Int) (hl : l.length ≤ 1000000) (hr : Rising l) :
    Calls Try.prog 46 #[.slice A l.length c, .int .i64 x] w (SearchPost l x w) := by
  go_enter Try.func46, Try.ntmps46
  go_wp2
  go_loop [7, 8] (fun vi vj => ∃ i j : Nat, vi = .int .i64 i ∧ vj = .int .i64 j ∧ i ≤ j ∧ j ≤ l.length ∧ (∀ q, q < i → l.getD q 0 < x) ∧ (∀ q, j ≤ q → q < l.length → x ≤ l.getD q 0)) (fun vi vj => (intOf vj - intOf vi).toNat)
  case atStart => exact ⟨0, l.length, rfl, rfl, by omega, by omega, fun q hq => by omega, fun q hq hq' => by omega⟩
  case round =>
    obtain ⟨i, j, rfl, rfl, hij, hj, hlo, hhi⟩ := hrel
    have HLO := Hd.mk hlo
    have HHI := Hd.mk hhi
    have HR := Hd.mk hr
    clear hlo hhi hr
    by_cases hlt : i < j
    · obtain ⟨g, c', hA, hg, _, _, hc, _, _⟩ := hO.some (by omega)
      cases hA
      have hh1 : i ≤ (i + j) / 2 := by omega
      have hh2 : (i + j) / 2 < j := by omega
      have hc1 := hc ((i + j) / 2) (by omega)
      rw [ints_get (by omega)] at hc1
      generalize hy : l.getD ((i + j) / 2) 0 = y at *
      have HY := Hd.mk hy
      clear hc hO hy
      by_cases hyx : y < x
      · go_wp2_with (go_at_call 56; refine (less_any _ _ _).mono ?_; rintro e w' ⟨rfl, rfl⟩)
        go_round
        case rel =>
          refine ⟨(i + j) / 2 + 1, j, by go_num, rfl, by omega, hj, fun q hq => ?_, HHI.out⟩
          rcases Nat.lt_succ_iff_lt_or_eq.1 hq with hq | rfl
          · have := HR.out q _ hq (by omega)
            rw [HY.out] at this
            omega
          · rw [HY.out]; exact hyx
        case measure => simp [intOf]; omega
      · go_wp2_with (go_at_call 56; refine (less_any _ _ _).mono ?_; rintro e w' ⟨rfl, rfl⟩)
        go_round
        case rel =>
          refine ⟨i, (i + j) / 2, rfl, by go_num, by omega, by omega, HLO.out, fun q hq hql => ?_⟩
          rcases Nat.lt_or_eq_of_le hq with hq | rfl
          · have := HR.out _ q hq hql
            rw [HY.out] at this
            omega
          · rw [HY.out]; omega
        case measure => simp [intOf]; omega
    · have hji : j = i := by omega
      subst hji
      by_cases hil : j < l.length
      · obtain ⟨g, c', hA, hg, _, _, hc, _, _⟩ := hO.some (by omega)
        cases hA
        have hc1 := hc j (by omega)
        rw [ints_get (by omega)] at hc1
        generalize hy : l.getD j 0 = y at *
        clear hc hO hy
        go_wp2_with (go_at_call 61; refine (nan2_any _ _).mono ?_; rintro e w' ⟨rfl, rfl⟩)
        all_goals
          go_ret2
          exact ⟨j, _, rfl, ⟨hj, HLO.out, HHI.out⟩, rfl⟩
      · go_wp2
        go_ret2
        exact ⟨j, _, rfl, ⟨hj, HLO.out, HHI.out⟩, rfl⟩

/-! ### The closures that compare cells -/
def CmpPost (c : Int × Int) (x : Int) (w : World) (e : Ending) (w' : World) : Prop := ∃ q : Int, e = .returned (.int .i64 q) ∧ (q < 0 ↔ c.1 < x) ∧ (q = 0 ↔ c.1 = x) ∧ Below w.heap.size w w'
def Cmp (f : Nat) (ok : Int → Prop) : Prop := ∀ (w : World) (c : Int × Int) (x : Int), ok c.1 → ok x → Calls Try.prog f #[.agg #[.int .i64 c.1, .int .i64 c.2], .int .i64 x] w (CmpPost c x w)
def InB (x : Int) : Prop := 0 ≤ x ∧ x ≤ 1000000000

theorem cmp1 : Cmp 37 InB := by
  intro w c x h1 h2
  obtain ⟨h11, h12⟩ := h1
  obtain ⟨h21, h22⟩ := h2
  obtain ⟨c1, c2⟩ := c
  dsimp only at *
  go_enter Try.func37, Try.ntmps37
  go_wp2
  go_ret
  exact ⟨c1 - x, rfl, by dsimp only; omega, by dsimp only; omega, (Below.refl _ _).alloc (Nat.le_refl _) _⟩
theorem cmp2 : Cmp 49 (fun _ => True) := by
  intro w c x _ _
  obtain ⟨c1, c2⟩ := c
  dsimp only at *
  by_cases h1 : c1 < x
  · go_enter Try.func49, Try.ntmps49
    go_wp2
    go_ret
    exact ⟨-1, rfl, by dsimp only; omega, by dsimp only; omega, (Below.refl _ _).alloc (Nat.le_refl _) _⟩
  · by_cases h2 : x < c1
    · go_enter Try.func49, Try.ntmps49
      go_wp2
      go_ret
      exact ⟨1, rfl, by dsimp only; omega, by dsimp only; omega, (Below.refl _ _).alloc (Nat.le_refl _) _⟩
    · go_enter Try.func49, Try.ntmps49
      go_wp2
      go_ret
      exact ⟨0, rfl, by dsimp only; omega, by dsimp only; omega, (Below.refl _ _).alloc (Nat.le_refl _) _⟩

end Go.Proofs.Ytgejmgomliadmaa
