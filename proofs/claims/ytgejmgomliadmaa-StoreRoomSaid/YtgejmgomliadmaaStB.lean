/- The store in memory: Words, Pages, Free, run, field, Get, Set. -/
import Derived.Test.YtgejmgomliadmaaStA
import Derived.BigQuiet
import Derived.Deep.QuietTactic
set_option linter.unusedVariables false
namespace Go.Proofs.Ytgejmgomliadmaa
open Go Go.RowKit

theorem Words_any (w : World) (ρ : Ghost) (a : Nat) (s : PSt) (H : Rep w ρ a s) : Calls Try.prog 21 #[.pointer (some ⟨a, 0, none⟩)] w fun e w' => e = .returned (.int .i64 s.held) ∧ w = w' := by
  obtain ⟨vr, vp, vw, css, H⟩ := H
  have h4 := H.blk.cell (i := 4) rfl
  clear H
  go_enter Try.func21, Try.ntmps21
  go_wp2
  go_ret
  exact ⟨rfl, rfl⟩
theorem Pages_any (w : World) (ρ : Ghost) (a : Nat) (s : PSt) (H : Rep w ρ a s) : Calls Try.prog 23 #[.pointer (some ⟨a, 0, none⟩)] w fun e w' => e = .returned (.int .i64 s.used) ∧ w = w' := by
  obtain ⟨vr, vp, vw, css, H⟩ := H
  have h4 := H.blk.cell (i := 5) rfl
  clear H
  go_enter Try.func23, Try.ntmps23
  go_wp2
  go_ret
  exact ⟨rfl, rfl⟩
theorem Free_any (w : World) (ρ : Ghost) (a : Nat) (s : PSt) (H : Rep w ρ a s) : Calls Try.prog 25 #[.pointer (some ⟨a, 0, none⟩)] w fun e w' => e = .returned (.int .i64 s.wait.length) ∧ w = w' := by
  obtain ⟨vr, vp, vw, css, H⟩ := H
  have h3 := H.blk.cell (i := 3) rfl
  obtain ⟨A, c, rfl, hl, hm⟩ := H.wait.form
  generalize s.wait.length = n at *
  clear H
  go_enter Try.func25, Try.ntmps25
  go_wp2
  go_ret
  exact ⟨rfl, rfl⟩

/-! ### run -/
def runAt (l : List Int) (many k : Nat) : Bool := decide (l.getD (k + many - 1) 0 - l.getD k 0 = (many : Int) - 1)
def runF (l : List Int) (many : Nat) : Int := match (List.range (l.length + 1 - many)).find? (runAt l many) with | some k => l.getD k 0 | none => -1
theorem runF_some {l : List Int} {many k : Nat} (hk : k + many ≤ l.length) (h : runAt l many k = true) (hn : ∀ j, j < k → runAt l many j = false) : runF l many = l.getD k 0 := by
  have : (List.range (l.length + 1 - many)).find? (runAt l many) = some k := by
    rw [List.find?_range_eq_some]
    exact ⟨h, List.mem_range.2 (by omega), fun j hj => by simp [hn j hj]⟩
  rw [runF, this]
theorem runF_none {l : List Int} {many : Nat} (hn : ∀ j, j + many ≤ l.length → runAt l many j = false) : runF l many = -1 := by
  have : (List.range (l.length + 1 - many)).find? (runAt l many) = none := by
    rw [List.find?_eq_none]
    intro j hj
    have := List.mem_range.1 hj
    simp [hn j (by omega)]
  rw [runF, this]
def Small (l : List Int) : Prop := ∀ x ∈ l, 0 ≤ x ∧ x ≤ 1000000000
theorem Small.getD {l : List Int} (h : Small l) (k : Nat) : 0 ≤ l.getD k 0 ∧ l.getD k 0 ≤ 1000000000 := by
  rw [List.getD_eq_getElem?_getD]
  by_cases hk : k < l.length
  · rw [List.getElem?_eq_getElem hk]
    exact h _ (List.getElem_mem hk)
  · rw [List.getElem?_eq_none (by omega)]
    simp
theorem ints_get {l : List Int} {k : Nat} (h : k < l.length) : (ints l)[k]? = some (.int .i64 (l.getD k 0)) := by
  simp [ints, List.getElem?_eq_getElem h, List.getD_eq_getElem?_getD]

theorem run_any (w : World) (ρ : Ghost) (a : Nat) (s : PSt) (H : Rep w ρ a s) (many : Nat) (h1 : 1 ≤ many) (h2 : many ≤ 1000) (hs : Small s.wait) (hsl : s.wait.length ≤ 1000000) :
    Calls Try.prog 45 #[.pointer (some ⟨a, 0, none⟩), .int .i64 many] w fun e w' => ∃ n, e = .returned (.int .i64 (runF s.wait many)) ∧ w' = w.drewN n := by
  obtain ⟨vr, vp, vw, css, H⟩ := H
  have h3 := H.blk.cell (i := 3) rfl
  obtain ⟨A, c, rfl, hl, hm⟩ := H.wait.form
  have hO := H.wait
  clear H
  generalize s.wait = l at *
  go_enter Try.func45, Try.ntmps45
  go_wp2
  go_loopw [5] (fun k wr => ∃ j n : Nat, k = .int .i64 j ∧ j ≤ l.length ∧ (∀ i, i < j → i + many ≤ l.length → runAt l many i = false) ∧ wr = w.drewN n) (fun k _ => l.length + 1 - (intOf k).toNat)
  case atStart => exact ⟨0, 0, rfl, by omega, fun i hi => by omega, rfl⟩
  case round =>
    obtain ⟨j, n, rfl, hj, hno, rfl⟩ := hrel
    by_cases hlt : j + many ≤ l.length
    · obtain ⟨g, c', hA, hg, _, _, hc, _, _⟩ := hO.some (by omega)
      cases hA
      have hc1 := hc (j + many - 1) (by omega)
      have hc2 := hc j (by omega)
      rw [ints_get (by omega)] at hc1 hc2
      have b1 := hs.getD (j + many - 1)
      have b2 := hs.getD j
      generalize hx1 : l.getD (j + many - 1) 0 = x1 at *
      generalize hx2 : l.getD j 0 = x2 at *
      have X1 := Hd.mk hx1
      have X2 := Hd.mk hx2
      clear hx1 hx2 hc
      have HNO := Hd.mk hno
      clear hno
      obtain ⟨b11, b12⟩ := b1
      obtain ⟨b21, b22⟩ := b2
      have e1 : IntKind.i64.wrap ((j : Int) + many) = (j : Int) + many := IntWalk.i64_in _ (by omega)
      have e2 : IntKind.i64.wrap ((j : Int) + many - 1) = (j : Int) + many - 1 := IntWalk.i64_in _ (by omega)
      have e3 : IntKind.i64.wrap (x1 - x2) = x1 - x2 := IntWalk.i64_in _ (by omega)
      have e4 : IntKind.i64.wrap ((many : Int) - 1) = (many : Int) - 1 := IntWalk.i64_in _ (by omega)
      have e5 : ((j : Int) + many - 1).toNat = j + many - 1 := by omega
      have e6 : (0 : Int) ≤ (j : Int) + many - 1 := by omega
      have e7 : (j : Int) + many - 1 < l.length := by omega
      have hlt' : ((j : Int) + many ≤ l.length) := by omega
      clear hO hm hl hj
      go_wp2_with fail
      go_quiet (fail)
      clear e1 e2 e3 e4 e5 e6 e7
      by_cases hr : x1 - x2 = (many : Int) - 1
      · have hb : (x1 - x2 == (many : Int) - 1) = true := by simpa using hr
        go_wp2
        go_ret
        refine ⟨n + nq, ?_, rfl⟩
        rw [runF_some hlt (by rw [runAt, X1.out, X2.out]; exact decide_eq_true hr) (fun i hi => HNO.out i hi (by omega)), X2.out]; rfl
      · have hb : (x1 - x2 == (many : Int) - 1) = false := by simpa using hr
        go_wp2
        go_roundw
        case rel =>
          refine ⟨j + 1, n + nq, by go_num, by omega, fun i hi hil => ?_, rfl⟩
          rcases Nat.lt_succ_iff_lt_or_eq.1 hi with hi | rfl
          · exact HNO.out i hi hil
          · rw [runAt, X1.out, X2.out]; exact decide_eq_false hr
        case measure => simp [intOf]; omega
    · have hge : l.length < j + many := by omega
      have hge' : (l.length : Int) < (j : Int) + many := by omega
      have HNO := Hd.mk hno
      clear hno hO
      go_wp2
      go_ret
      refine ⟨n, ?_, rfl⟩
      rw [runF_none (fun i hi => HNO.out i (by omega) hi)]; rfl

end Go.Proofs.Ytgejmgomliadmaa
