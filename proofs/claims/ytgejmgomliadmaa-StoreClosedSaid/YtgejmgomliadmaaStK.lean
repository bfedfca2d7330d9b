/- The store in memory: Get, Set. -/
import Derived.Test.YtgejmgomliadmaaStJ
set_option linter.unusedVariables false
namespace Go.Proofs.Ytgejmgomliadmaa
open Go Go.RowKit

theorem get_err (w : World) (p n x f e : Int) (a : Value) (he : e ≠ 0)
    (h : Calls Try.prog 40 #[a, .int .i64 n, .int .i64 x, .int .i64 f] w (RetPost (.tuple #[.int .i64 0, .int .i64 e]) w)) :
    Calls Try.prog 17 #[a, .int .i64 n, .int .i64 x, .int .i64 f] w (RetPost (.tuple #[.int .i64 0, .int .i64 e]) w) := by
  have H := Hd.mk h
  clear h
  have hb : (e != 0) = true := by simpa using he
  have hb2 : (e == 0) = false := by simpa using he
  clear he
  go_enter Try.func17, Try.ntmps17
  go_wp2_with fail
  refine H.out.mono ?_
  rintro e1 w1 ⟨rfl, hb⟩
  go_wp2
  go_ret2
  exact ⟨rfl, hb⟩
theorem set_err (w : World) (n x f v e : Int) (a : Value) (he : e ≠ 0)
    (h : Calls Try.prog 40 #[a, .int .i64 n, .int .i64 x, .int .i64 f] w (RetPost (.tuple #[.int .i64 0, .int .i64 e]) w)) :
    Calls Try.prog 19 #[a, .int .i64 n, .int .i64 x, .int .i64 f, .int .i64 v] w (RetPost (.int .i64 e) w) := by
  have H := Hd.mk h
  clear h
  have hb : (e != 0) = true := by simpa using he
  have hb2 : (e == 0) = false := by simpa using he
  clear he
  go_enter Try.func19, Try.ntmps19
  go_wp2_with fail
  refine H.out.mono ?_
  rintro e1 w1 ⟨rfl, hb⟩
  go_wp2
  go_ret
  exact ⟨rfl, hb⟩

theorem get_ok (w : World) (ρ : Ghost) (a : Nat) (s : PSt) (H : Rep w ρ a s) (n x f : Int) (t : Nat) (ht : t < s.np * 16) (hnp : s.np ≤ 1000000) (hxt : x + f = t)
    (h : Calls Try.prog 40 #[.pointer (some ⟨a, 0, none⟩), .int .i64 n, .int .i64 x, .int .i64 f] w (RetPost (.tuple #[.int .i64 (x + f), .int .i64 0]) w)) :
    Calls Try.prog 17 #[.pointer (some ⟨a, 0, none⟩), .int .i64 n, .int .i64 x, .int .i64 f] w (RetPost (.tuple #[.int .i64 (s.data.getD t 0), .int .i64 0]) w) := by
  rw [hxt] at h
  have HC := Hd.mk h
  clear h hxt
  obtain ⟨vr, vp, vw, css, H⟩ := H
  have hb := H.blk
  have hdl : s.data.length = s.np * 16 := by have := H.pages.len; rwa [ints_length] at this
  obtain ⟨g, c, rfl, hg, hc1, hc2, hcell, hfr, hgl⟩ := H.pages.some (by omega)
  have k1 := hcell t ht
  rw [ints_get (by omega)] at k1
  generalize s.data.getD t 0 = y at *
  have htb : t / 16 < s.np := by omega
  have he : t / 16 * 16 + t % 16 = t := by omega
  generalize s.np = m at *
  have h2 := hb.cell (i := 2) rfl
  have hal := hb.lt
  unfold maxLen at hc2
  clear H hb hcell hfr hg hdl
  go_enter Try.func17, Try.ntmps17
  go_wp2_with fail
  refine HC.out.mono ?_
  rintro e1 w1 ⟨rfl, hbel⟩
  have q1 := (hbel.cell (p := ⟨g, t, none⟩) hgl).trans k1
  have q2 := (hbel.cell (p := ⟨a, 2, none⟩) hal).trans h2
  have HB := Hd.mk hbel
  rw [← he] at q1
  clear hbel k1 h2 he
  go_wp2
  go_ret2
  exact ⟨rfl, HB.out⟩

theorem set_core {w : World} {ρ : Ghost} {a g c : Nat} {s : PSt} {vr vp vw : Value} {css : List (List Value)} (H : RepAt w ρ a s vr vp vw css) (hv : vp = .slice (some ⟨g, 0, none⟩) s.np c) (t : Nat) (v : Int) (ht : t < s.np * 16) :
    Rep (w.setCell ⟨g, t, none⟩ (.int .i64 v)) ρ a { s with data := s.data.set t v } ∧ ρ g = some (3, 0) := by
  have hOp := H.pages
  rw [hv] at hOp
  obtain ⟨g', c', hv', hg, _⟩ := H.pages.some (by omega)
  rw [hv] at hv'
  cases hv'
  have hne : a ≠ g := by rintro rfl; have := H.tag; rw [hg] at this; cases this
  have hset := hOp.set t (.int .i64 v)
  refine ⟨⟨vr, vp, vw, css, H.blk.setCell_ne _ hne, H.tag, H.regs.set_ne _ (by rw [hg]; simp), ?_, H.wait.set_ne _ (by rw [hg]; simp), H.rows, fun i r cs h1 h2 => (H.row i r cs h1 h2).set_ne hg (by simp) (by simp)⟩, hg⟩
  rw [hv]
  have e : ints (s.data.set t v) = (ints s.data).set t (.int .i64 v) := by simp [ints, List.map_set]
  show OwnSl _ _ _ _ _ _ _ (ints (s.data.set t v))
  rw [e]
  exact hset

def SetPost (ρ : Ghost) (a : Nat) (s : PSt) (w : World) (e : Ending) (w' : World) : Prop := e = .returned (.int .i64 0) ∧ Rep w' ρ a s ∧ Step STag w ρ w' ρ

theorem set_ok (w : World) (ρ : Ghost) (a : Nat) (s : PSt) (H : Rep w ρ a s) (n x f v : Int) (t : Nat) (ht : t < s.np * 16) (hnp : s.np ≤ 1000000) (hxt : x + f = t)
    (h : Calls Try.prog 40 #[.pointer (some ⟨a, 0, none⟩), .int .i64 n, .int .i64 x, .int .i64 f] w (RetPost (.tuple #[.int .i64 (x + f), .int .i64 0]) w)) :
    Calls Try.prog 19 #[.pointer (some ⟨a, 0, none⟩), .int .i64 n, .int .i64 x, .int .i64 f, .int .i64 v] w (SetPost ρ a { s with data := s.data.set t v } w) := by
  rw [hxt] at h
  have HC := Hd.mk h
  clear h hxt
  obtain ⟨vr, vp, vw, css, H⟩ := H
  obtain ⟨g, c, hv, hg, hc1, hc2, hcell, hfr, hgl⟩ := H.pages.some (by omega)
  have k1 := hcell t ht
  have hdl : s.data.length = s.np * 16 := by have := H.pages.len; rwa [ints_length] at this
  rw [ints_get (by omega)] at k1
  have HH := Hd.mk H
  have HV := Hd.mk hv
  have htb : t / 16 < s.np := by omega
  have he : t / 16 * 16 + t % 16 = t := by omega
  have h2 := H.blk.cell (i := 2) rfl
  rw [hv] at h2
  have hal := H.blk.lt
  unfold maxLen at hc2
  have kf := hfr t
  generalize hy : s.data.getD t 0 = y at *
  clear H hv hcell hfr hdl hy
  generalize hnn : s.np = m at *
  have HN := Hd.mk hnn
  clear hnn
  go_enter Try.func19, Try.ntmps19
  go_wp2_with fail
  refine HC.out.mono ?_
  rintro e1 w1 ⟨rfl, hbel⟩
  have q1 := (hbel.cell (p := ⟨g, t, none⟩) hgl).trans k1
  have q3 := (hbel.frozen (p := ⟨g, t, none⟩) hgl).trans kf
  have q2 := (hbel.cell (p := ⟨a, 2, none⟩) hal).trans h2
  have HB := Hd.mk hbel
  have HE := Hd.mk he
  rw [← he] at q1 q3
  clear hbel k1 h2 he kf
  go_wp2
  go_ret
  rw [HE.out]
  have hS1 : Step STag w ρ w1 ρ := (Step.refl _ w ρ).of_below HB.out
  have hS0 : Step (fun _ => False) w ρ w1 ρ := (Step.refl _ w ρ).of_below HB.out
  have H1 := HH.out.step hS0 (fun _ _ h => h)
  obtain ⟨k2, k3⟩ := set_core H1 (by rw [HV.out, HN.out]) t v (by rw [HN.out]; exact ht)
  exact ⟨rfl, by rw [← HN.out]; exact k2, hS1.setCell k3 (by simp [STag]) _⟩

end Go.Proofs.Ytgejmgomliadmaa
