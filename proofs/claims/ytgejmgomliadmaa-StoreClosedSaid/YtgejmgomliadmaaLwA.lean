/- The laws' small functions: few, head. -/
import Derived.Test.YtgejmgomliadmaaPuH
import Derived.Deep.RegionHeld3
set_option linter.unusedVariables false
namespace Go.Proofs.Ytgejmgomliadmaa
open Go Go.RowKit

def rho0 : Ghost := fun _ => none
theorem fresh0 (w : World) : Fresh w rho0 := fun _ _ => rfl
def hs0 : PSt := ⟨[], 0, [], [], 0, 0⟩
def hs1 : PSt := { hs0 with regs := hs0.regs ++ [PReg.new] }
def hs2 : PSt := { hs1 with regs := hs1.regs ++ [PReg.new] }
def hs3 : PSt := (allocP hs2 0 3 PReg.new).2
def hs4 : PSt := (allocP hs3 1 2 PReg.new).2
def hC : List Cel := [⟨0, 0, 3⟩, ⟨1, 16, 2⟩]
def hs5 : PSt := setS hs4 hC 1 16 1 7
def hs6 : PSt := closeP hs5 0
theorem hg2 : SGood 2 hs2 [] := good_open (good_open good_new)
theorem ha3 : (allocP hs2 0 3 PReg.new).1 = 0 := by kernel_rfl
theorem ha4 : (allocP hs3 1 2 PReg.new).1 = 16 := by kernel_rfl
theorem hg3 : SGood 3 hs3 [⟨0, 0, 3⟩] := by
  have := (alloc_good hg2 (by omega) (i := 0) (r := PReg.new) rfl rfl (wd := 3) (by omega) (by omega)).1
  rw [ha3] at this
  exact this
theorem hg4 : SGood 4 hs4 hC := by
  have := (alloc_good hg3 (by omega) (i := 1) (r := PReg.new) (by kernel_rfl) rfl (wd := 2) (by omega) (by omega)).1
  rw [ha4] at this
  exact this
theorem he5 : errOf hs4 hC 1 16 1 = 0 := by kernel_rfl
theorem hg5 : SGood 4 hs5 hC := good_set hg4 _ _ _ _
theorem he6 : errOf hs5 hC 1 16 1 = 0 := by kernel_rfl
theorem hv6 : hs5.data.getD 17 0 = 7 := by kernel_rfl
theorem hu5 : hs5.used = 2 := by kernel_rfl
theorem hc6 : closeE hs5 0 = 0 := by kernel_rfl
theorem hw6 : hs6.wait.length = 1 := by
  have : hs6.wait = sortL [0] := by kernel_rfl
  rw [this, sortL_length]; rfl
theorem hh6 : hs6.held = 2 := by kernel_rfl

theorem few_any (w : World) (A : Option Addr) (n c : Nat) (hn : n ≤ maxLen) : Calls Try.prog 7 #[.slice A n c] w fun e w' => e = .returned (.bool (decide (n ≤ 60))) ∧ w = w' := by
  unfold maxLen at hn
  go_enter Try.func7, Try.ntmps7
  go_wp2
  go_ret
  refine ⟨?_, rfl⟩
  by_cases h : n ≤ 60
  · have : (n : Int) ≤ 60 := by omega
    simp [h, this]
  · have : ¬ (n : Int) ≤ 60 := by omega
    simp [h, this]

set_option maxRecDepth 100000 in
theorem head_any (w : World) : Calls Try.prog 8 #[] w fun e w' => e = .returned (.bool true) ∧ Below w.heap.size w w' := by
  go_enter Try.func8, Try.ntmps8
  go_wp2_with fail
  refine (New_any w rho0).mono ?_
  rintro e w1 ⟨ρ1, rfl, H1, HS1⟩
  have hS1 := Hd.mk HS1
  clear HS1
  generalize hsz : w.heap.size = a at *
  have HSZ := Hd.mk hsz
  clear hsz
  go_wp2_with fail
  refine (Open_any w1 ρ1 a hs0 H1 (by decide)).mono ?_
  rintro e w2 ⟨ρ2, rfl, H2, HS2⟩
  have hS2 := Hd.mk (hS1.out.trans HS2)
  clear HS2 H1
  go_wp2_with fail
  refine (Open_any w2 ρ2 a hs1 H2 (by decide)).mono ?_
  rintro e w3 ⟨ρ3, rfl, H3, HS3⟩
  have hS3 := Hd.mk (hS2.out.trans HS3)
  clear HS3 H2
  have e1 : ((hs1.regs.length : Nat) : Int) = 1 := rfl
  have e0 : ((hs0.regs.length : Nat) : Int) = 0 := rfl
  simp only [e1]
  go_wp2_with fail
  have h := (alloc_good hg2 (by omega) (i := 0) (r := PReg.new) rfl rfl (wd := 3) (by omega) (by omega)).2 w3 ρ3 a H3 (hS3.out.fresh (fresh0 w))
  rw [ha3] at h
  refine h.mono ?_
  clear h
  rintro e w4 ⟨ρ4, rfl, H4, HS4⟩
  have hS4 := Hd.mk (hS3.out.trans HS4)
  clear HS4 H3
  go_wp2_with fail
  have h := (alloc_good hg3 (by omega) (i := 1) (r := PReg.new) (by kernel_rfl) rfl (wd := 2) (by omega) (by omega)).2 w4 ρ4 a H4 (hS4.out.fresh (fresh0 w))
  rw [ha4] at h
  refine h.mono ?_
  clear h
  rintro e w5 ⟨ρ5, rfl, H5, HS5⟩
  have hS5 := Hd.mk (hS4.out.trans HS5)
  clear HS5 H4
  go_wp2_with fail
  have h := set_good hg4 (by omega) w5 ρ5 a H5 1 16 1 7
  rw [he5] at h
  refine h.mono ?_
  clear h
  rintro e w6 ⟨ρ6, rfl, H6, HS6⟩
  have hS6 := Hd.mk (hS5.out.trans HS6)
  clear HS6 H5
  go_wp2_with fail
  have h := Pages_any w6 ρ6 a hs5 H6
  rw [hu5] at h
  refine h.mono ?_
  clear h
  rintro e w6' ⟨rfl, rfl⟩
  go_wp2_with fail
  have h := get_good hg5 (by omega) w6 ρ6 a H6 1 16 1
  rw [he6, if_pos rfl] at h
  have e17 : ((16 : Int) + 1).toNat = 17 := rfl
  rw [e17, hv6] at h
  refine h.mono ?_
  clear h
  rintro e w7 ⟨rfl, HB7⟩
  have H7 := H6.below HB7
  have hS7 := Hd.mk (hS6.out.of_below HB7)
  clear HB7 H6 e17
  go_wp2_with fail
  have h := (close_good hg5 (by omega) 0).2 w7 ρ6 a H7
  rw [hc6] at h
  refine h.mono ?_
  clear h
  rintro e w8 ⟨ρ8, rfl, H8, HS8⟩
  have hS8 := Hd.mk (hS7.out.trans HS8)
  clear HS8 H7
  go_wp2_with fail
  have h := Free_any w8 ρ8 a hs6 H8
  rw [hw6] at h
  refine h.mono ?_
  clear h
  rintro e w8' ⟨rfl, rfl⟩
  go_wp2_with fail
  have h := Words_any w8 ρ8 a hs6 H8
  rw [hh6] at h
  refine h.mono ?_
  clear h
  rintro e w8' ⟨rfl, rfl⟩
  go_wp2
  go_ret
  refine ⟨rfl, ?_⟩
  exact hS8.out.below (fun _ _ => rfl)

end Go.Proofs.Ytgejmgomliadmaa
