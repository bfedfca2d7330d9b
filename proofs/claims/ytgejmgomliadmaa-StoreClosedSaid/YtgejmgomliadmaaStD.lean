/- slices.BinarySearchFunc at cells. -/
import Derived.Test.YtgejmgomliadmaaStC
set_option linter.unusedVariables false
namespace Go.Proofs.Ytgejmgomliadmaa
open Go Go.RowKit

def ats (l : List (Int × Int)) : List Int := l.map (·.1)
theorem pairs_get {l : List (Int × Int)} {k : Nat} {c : Int × Int} (h : l[k]? = some c) : (pairs l)[k * 2]? = some (.int .i64 c.1) ∧ (pairs l)[k * 2 + 1]? = some (.int .i64 c.2) := by
  induction l generalizing k with
  | nil => simp at h
  | cons x l ih =>
    cases k with
    | zero =>
      simp at h
      subst h
      simp [pairs]
    | succ k =>
      have := ih (k := k) (by simpa using h)
      have e1 : (k + 1) * 2 = k * 2 + 1 + 1 := by omega
      have e2 : (k + 1) * 2 + 1 = k * 2 + 1 + 1 + 1 := by omega
      have hp : pairs (x :: l) = .int .i64 x.1 :: .int .i64 x.2 :: pairs l := by simp [pairs]
      rw [hp, e1]
      simpa using this
theorem ats_get {l : List (Int × Int)} {k : Nat} {c : Int × Int} (h : l[k]? = some c) : (ats l).getD k 0 = c.1 := by
  simp [ats, List.getD_eq_getElem?_getD, h]
theorem ats_length (l : List (Int × Int)) : (ats l).length = l.length := by simp [ats]

theorem below2 {w w1 w2 : World} (h : Below w.heap.size w w1) (k : Below w1.heap.size w1 w2) : Below w.heap.size w w2 := h.trans (k.mono h.size)

def FoundPost (l : List Int) (x : Int) (w : World) (e : Ending) (w' : World) : Prop := ∃ (k : Nat) (b : Bool), e = .returned (.tuple #[.int .i64 k, .bool b]) ∧ Place l x k ∧ (b = true ↔ k < l.length ∧ l.getD k 0 = x) ∧ Below w.heap.size w w'

theorem bsf_any (F : Nat) (ok : Int → Prop) (hF : Cmp F ok) (hcf : ∀ (args : Array Value) (w : World), (callFunc F args).run Try.prog w = .ok (.enter F args) w) (w : World) (ρ : Ghost) (t : Tag) (A : Option Addr) (c : Nat) (l : List (Int × Int)) (hO : OwnSl w ρ t 63 2 (.slice A l.length c) l.length (pairs l)) (x : Int) (hl : l.length ≤ 1000000) (hr : Rising (ats l)) (hx : ok x) (hok : ∀ c ∈ l, ok c.1) :
    Calls Try.prog 36 #[.slice A l.length c, .int .i64 x, .func (.func F) #[] #[]] w (FoundPost (ats l) x w) := by
  go_enter Try.func36, Try.ntmps36
  go_wp2
  go_loopw [9, 10] (fun vi vj wr => ∃ i j : Nat, vi = .int .i64 i ∧ vj = .int .i64 j ∧ i ≤ j ∧ j ≤ l.length ∧ (∀ q, q < i → (ats l).getD q 0 < x) ∧ (∀ q, j ≤ q → q < l.length → x ≤ (ats l).getD q 0) ∧ Below w.heap.size w wr) (fun vi vj _ => (intOf vj - intOf vi).toNat)
  case atStart => exact ⟨0, l.length, rfl, rfl, by omega, by omega, fun q hq => by omega, fun q hq hq' => by omega, Below.refl _ _⟩
  case round =>
    obtain ⟨i, j, rfl, rfl, hij, hj, hlo, hhi, hbel⟩ := hrel
    have HLO := Hd.mk hlo
    have HHI := Hd.mk hhi
    have HR := Hd.mk hr
    have HOK := Hd.mk hok
    have HB := Hd.mk hbel
    clear hlo hhi hr hok hbel
    by_cases hlt : i < j
    · obtain ⟨g, c', hA, hg, _, _, hc, _, hgl⟩ := hO.some (by omega)
      cases hA
      have hh1 : i ≤ (i + j) / 2 := by omega
      have hh2 : (i + j) / 2 < j := by omega
      have hget : l[(i + j) / 2]? = some (l[(i + j) / 2]'(by omega)) := List.getElem?_eq_getElem (by omega)
      generalize l[(i + j) / 2]'(by omega) = y at hget
      have hc1 := hc ((i + j) / 2 * 2) (by omega)
      have hc2 := hc ((i + j) / 2 * 2 + 1) (by omega)
      obtain ⟨p1, p2⟩ := pairs_get hget
      rw [p1, ← HB.out.cell (by exact hgl)] at hc1
      rw [p2, ← HB.out.cell (by exact hgl)] at hc2
      have HY := Hd.mk (ats_get hget)
      have hyok := HOK.out y (List.mem_of_getElem? hget)
      obtain ⟨y1, y2⟩ := y
      dsimp only at hc1 hc2 hyok
      clear hc hO hget p1 p2
      go_wp2_with fail
      refine (hF wr (y1, y2) x hyok hx).mono ?_
      rintro e w1 ⟨q, rfl, hq1, hq2, hb1⟩
      dsimp only at hq1 hq2
      have HB1 := Hd.mk (below2 HB.out hb1)
      clear hb1 hc1 hc2 hq2
      by_cases hyx : y1 < x
      · have hq : q < 0 := hq1.2 hyx
        clear hq1
        go_wp2
        go_roundw
        case rel =>
          refine ⟨(i + j) / 2 + 1, j, by go_num, rfl, by omega, hj, fun p hp => ?_, HHI.out, HB1.out⟩
          rcases Nat.lt_succ_iff_lt_or_eq.1 hp with hp | rfl
          · have := HR.out p _ hp (by rw [ats_length]; omega)
            rw [HY.out] at this
            omega
          · rw [HY.out]; exact hyx
        case measure => simp [intOf]; omega
      · have hq : 0 ≤ q := by
          rcases Int.lt_or_le q 0 with h | h
          · exact absurd (hq1.1 h) hyx
          · exact h
        clear hq1
        go_wp2
        go_roundw
        case rel =>
          refine ⟨i, (i + j) / 2, rfl, by go_num, by omega, by omega, HLO.out, fun p hp hpl => ?_, HB1.out⟩
          rcases Nat.lt_or_eq_of_le hp with hp | rfl
          · have := HR.out _ p hp (by rw [ats_length]; exact hpl)
            rw [HY.out] at this
            omega
          · rw [HY.out]; omega
        case measure => simp [intOf]; omega
    · have hji : j = i := by omega
      subst hji
      have hplace : Place (ats l) x j := ⟨by rw [ats_length]; exact hj, HLO.out, fun q h1 h2 => HHI.out q h1 (by rw [ats_length] at h2; exact h2)⟩
      have HP := Hd.mk hplace
      clear hplace
      by_cases hil : j < l.length
      · obtain ⟨g, c', hA, hg, _, _, hc, _, hgl⟩ := hO.some (by omega)
        cases hA
        have hget : l[j]? = some (l[j]'(by omega)) := List.getElem?_eq_getElem (by omega)
        generalize l[j]'(by omega) = y at hget
        have hc1 := hc (j * 2) (by omega)
        have hc2 := hc (j * 2 + 1) (by omega)
        obtain ⟨p1, p2⟩ := pairs_get hget
        rw [p1, ← HB.out.cell (by exact hgl)] at hc1
        rw [p2, ← HB.out.cell (by exact hgl)] at hc2
        have HY := Hd.mk (ats_get hget)
        have hyok := HOK.out y (List.mem_of_getElem? hget)
        obtain ⟨y1, y2⟩ := y
        dsimp only at hc1 hc2 hyok
        clear hc hO hget p1 p2
        go_wp2_with fail
        refine (hF wr (y1, y2) x hyok hx).mono ?_
        rintro e w1 ⟨q, rfl, hq1, hq2, hb1⟩
        dsimp only at hq1 hq2
        have HB1 := Hd.mk (below2 HB.out hb1)
        have HQ := Hd.mk hq2
        clear hb1 hc1 hc2 hq1 hq2
        go_wp2
        go_ret2
        refine ⟨j, _, rfl, HP.out, ?_, HB1.out⟩
        rw [HY.out, ats_length]
        have := HQ.out
        simp
        exact ⟨fun h => ⟨hil, this.1 h⟩, fun h => this.2 h.2⟩
      · go_wp2
        go_ret2
        refine ⟨j, _, rfl, HP.out, ?_, HB.out⟩
        rw [ats_length]
        simp
        omega

theorem cf1 : ∀ (args : Array Value) (w : World), (callFunc 37 args).run Try.prog w = .ok (.enter 37 args) w := fun _ _ => by kernel_rfl
theorem cf2 : ∀ (args : Array Value) (w : World), (callFunc 49 args).run Try.prog w = .ok (.enter 49 args) w := fun _ _ => by kernel_rfl

end Go.Proofs.Ytgejmgomliadmaa
