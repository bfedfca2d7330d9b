/- The laws' user: what she does with what is there. -/
import Derived.Test.YtgejmgomliadmaaUsL
import Derived.Deep.RegionLaw
set_option linter.unusedVariables false
namespace Go.Proofs.Ytgejmgomliadmaa
open Go Go.RowKit

set_option maxRecDepth 100000 in
set_option maxHeartbeats 2000000 in
theorem With_alloc2 {N : Nat} (w : World) (ρ : Ghost) (u a : Nat) (S : USt) (ko kc : Nat) (vo vc : Value) (H : URepAt w ρ u a S ko kc vo vc) (hI : UInv N S) (hN : N + 1 ≤ 200) (hfr : Fresh w ρ) (d : Nat) (hd : d < 256) (r n ad f v : Int) (hz : 1 ≤ S.opn.length) (hm : 2 ≤ d % 8 ∧ d % 8 < 4) (kw : Nat) (hkw : kw < 40) (hka : ∀ w : World, Calls Try.prog 42 #[.int .i64 n, .int .i64 40] w (fun e w' => e = .returned (.int .i64 kw) ∧ w = w')) (hw : 16 < kw + 1) :
    Calls Try.prog 27 #[.pointer (some ⟨u, 0, none⟩), .agg #[.int .u8 d, .int .i64 r, .int .i64 n, .int .i64 ad, .int .i64 f, .int .i64 v]] w (WPost ρ u S w) := by
  obtain ⟨m8, hm8⟩ : ∃ m8 : Int, (d : Int).tmod 8 = m8 := ⟨_, rfl⟩
  have hmm : m8 = ((d % 8 : Nat) : Int) := by rw [← hm8, Int.tmod_eq_emod_of_nonneg (by omega)]; omega
  have m0 : ¬ m8 = 0 := by omega
  have m1 : ¬ m8 = 1 := by omega
  have m1c : (m8 == 1) = false := by simpa using m1
  have m4 : m8 < 4 := by omega
  have HKW := Hd.mk hka
  clear hka
  have m0b : (m8 == 0) = false := by simpa using m0
  have m1b : (m8 == 1) = false ∨ (m8 == 1) = true := by cases (m8 == 1) <;> simp
  clear hmm m1b
  obtain ⟨Ao, co, rfl, ho1, ho2⟩ := H.o.form
  have hnl := hI.nopn
  have hs0 := (Step.refl (fun _ => False) w ρ).alloc (.cells #[.int .u8 d, .int .i64 r, .int .i64 n, .int .i64 ad, .int .i64 f, .int .i64 v] 34)
  have H0 := H.step0 hs0
  have S0 := Hd.mk ((Step.refl UTag w ρ).alloc (.cells #[.int .u8 d, .int .i64 r, .int .i64 n, .int .i64 ad, .int .i64 f, .int .i64 v] 34))
  have X := Hd.mk (Blk.new' w #[.int .u8 d, .int .i64 r, .int .i64 n, .int .i64 ad, .int .i64 f, .int .i64 v] 34)
  have X0 : Hd (ρ w.heap.size = none) := ⟨hfr _ (Nat.le_refl _)⟩
  have FR := Hd.mk ((Step.refl UTag w ρ).alloc (.cells #[.int .u8 d, .int .i64 r, .int .i64 n, .int .i64 ad, .int .i64 f, .int .i64 v] 34) |>.fresh hfr)
  have hlen : S.opn.length ≤ 200 := by omega
  have HI := Hd.mk hI
  have x0 := H0.blk.cell (i := 0) rfl
  have x2 := H0.blk.cell (i := 2) rfl
  have HZ := Hd.mk hz
  have hzz : ¬ ((S.opn.length : Nat) : Int) = 0 := by omega
  obtain ⟨k, hkl, hka⟩ := around_nat r S.opn.length hz (by omega)
  have HK := Hd.mk hka
  have hki : (k : Int) < S.opn.length := by omega
  have hk0 : (0 : Int) ≤ k := by omega
  have H1 := Hd.mk H0
  have hfr' := hfr
  clear H0 H hI hs0 hfr hka
  go_enter Try.func27, Try.ntmps27
  go_wp2_with fail
  generalize w.alloc (.cells #[.int .u8 d, .int .i64 r, .int .i64 n, .int .i64 ad, .int .i64 f, .int .i64 v] 34) = W at *
  generalize w.heap.size = Xb at *
  have x1b := X.out.cell (i := 1) rfl
  go_quiet ((go_at_call 42; exact Calls.quiet_of_same (HK.out _).1))
  have hs1 := (Step.refl (fun _ => False) W ρ).drewN nq
  have H2 := H1.out.step0 hs1
  have XB := Hd.mk (hs1.blk0 X.out X0.out).1
  have XB0 := Hd.mk X0.out
  have HFR := Hd.mk hfr'
  have SU := Hd.mk (S0.out.drewN nq)
  generalize W.drewN nq = W1 at *
  obtain ⟨i, r', hik, hri, hro⟩ : ∃ (i : Nat) (r' : PReg), S.opn[k]? = some (i : Int) ∧ S.s.regs[i]? = some r' ∧ r'.op = true := by
    obtain ⟨i, r', h1, h2, h3⟩ := HI.out.opn S.opn[k] (List.getElem_mem hkl)
    exact ⟨i, r', by rw [List.getElem?_eq_getElem hkl, h1], h2, h3⟩
  have HIK := Hd.mk hik
  have HRI := Hd.mk hri
  have HRO := Hd.mk hro
  have y2 := H2.blk.cell (i := 2) rfl
  obtain ⟨g2, c2, hv, _, _, _, hc2, _, _⟩ := H2.o.some (by omega)
  have q2 := hc2 k (by omega)
  rw [ints_get hkl, List.getD_eq_getElem?_getD, hik] at q2
  simp only [Option.getD_some] at q2
  cases hv
  have HU := Hd.mk H2
  clear hs1 H2 hik hri hro hc2 x0 x2 x1b H1 HK X
  have b0 := XB.out.cell (i := 0) rfl
  have b2 := XB.out.cell (i := 2) rfl
  have y0 : W1.cell? ⟨u, 0, none⟩ = some (.pointer (some ⟨a, 0, none⟩)) := HU.out.blk.cell (i := 0) rfl
  have e1 : IntKind.i64.wrap (1 + (kw : Int)) = ((kw + 1 : Nat) : Int) := by rw [IntWalk.i64_in _ (by omega)]; omega
  have h16 : (16 : Int) < ((kw + 1 : Nat) : Int) := by omega
  obtain ⟨hwd, hws⟩ := HU.out.wide
  have HWD := Hd.mk hwd
  have HWS := Hd.mk (SU.out.trans (hws.mono (by rintro t rfl; exact utag_ge (by simp) (by simp))))
  have y4 := HU.out.blk.cell (i := 4) rfl
  have y4f := HU.out.blk.free 4
  clear hwd hws
  go_wp2_with fail
  refine (HKW.out _).mono ?_
  rintro e w' ⟨rfl, rfl⟩
  go_wp2_with fail
  generalize W1.setCell ⟨u, 4, none⟩ (.bool true) = W1b at *
  have hal := (alloc_good HI.out.good hN HRI.out HRO.out (wd := kw + 1) (by omega) (by omega)).2 W1b ρ a HWD.out.st (HWS.out.fresh HFR.out)
  have ekw : ((kw + 1 : Nat) : Int) = (kw : Int) + 1 := by omega
  rw [ekw] at hal
  refine hal.mono ?_
  clear hal ekw
  rintro e W2 ⟨ρ2, rfl, R2, hs2⟩
  have HU2 := Hd.mk (HWD.out.store hs2 R2)
  have SU2 := Hd.mk (HWS.out.trans (hs2.mono stag_utag))
  clear R2 hs2 y0 b0 b2 q2 y2 y4 y4f
  go_wp2_with fail
  obtain ⟨Ac, cc, hvc, _, _⟩ := HU2.out.c.form
  have y3 : W2.drew.cell? ⟨u, 3, none⟩ = some (.slice Ac S.cs.length cc) := by have := HU2.out.blk.cell (i := 3) rfl; rw [hvc] at this; exact this
  have hmk := make29 W2.drew (kw + 1) (by omega)
  have ekw : ((kw + 1 : Nat) : Int) = (kw : Int) + 1 := by omega
  rw [ekw] at hmk
  clear ekw
  have hcC := HU2.out.c
  rw [hvc] at hcC
  have HCC := Hd.mk hcC
  have hncs : S.cs.length ≤ 200 := by have := HI.out.good.ncel; unfold USt.C at this; simp at this; omega
  have hbu := HU2.out.blk
  rw [hvc] at hbu
  have HBU := Hd.mk hbu
  have HTU := Hd.mk HU2.out.tag
  have HVC := Hd.mk hvc
  clear hvc hcC hbu
  have hfr2 : Fresh W2 ρ2 := SU2.out.fresh HFR.out
  have HMV : Hd (∀ g, UMove S ⟨(allocP S.s i (kw + 1) r').2, S.many, S.opn, S.cs ++ [⟨i, (allocP S.s i (kw + 1) r').1, g, List.replicate (kw + 1) 0⟩], true⟩) := ⟨fun g => by
    have := UMove.alc (S := S) i (kw + 1) g r' HRI.out HRO.out (by omega) (by omega)
    rw [show (S.large || decide (16 < kw + 1)) = true by simp; omega] at this
    exact this⟩
  obtain ⟨SA, HA, GA, GT, CA⟩ := HU2.out.alc1 hfr2 (kw + 1) #[.int .i64 i, .int .i64 (allocP S.s i (kw + 1) r').1, .slice (some ⟨W2.heap.size, 0, none⟩) (kw + 1) (kw + 1)]
  have hgn : ∀ c ∈ S.cs, c.g ≠ W2.heap.size := fun c hc => Nat.ne_of_lt (HU2.out.f c hc).1.lt
  have HGN := Hd.mk hgn
  have HSA := Hd.mk SA
  have HHA := Hd.mk HA
  have HGA := Hd.mk GA
  have HGT := Hd.mk GT
  have HCA := Hd.mk CA
  clear hfr2 hgn SA HA GA GT CA
  have y3a : (W2.alloc (.cells (ints (List.replicate (kw + 1) 0)).toArray 2)).drew.cell? ⟨u, 3, none⟩ = some (.slice Ac S.cs.length cc) := ((HBU.out.alloc _).drew).cell (i := 3) rfl
  have y3b : ((W2.alloc (.cells (ints (List.replicate (kw + 1) 0)).toArray 2)).alloc (.cells #[.int .i64 i, .int .i64 (allocP S.s i (kw + 1) r').1, .slice (some ⟨W2.heap.size, 0, none⟩) (kw + 1) (kw + 1)] 50)).drew.cell? ⟨u, 3, none⟩ = some (.slice Ac S.cs.length cc) := (((HBU.out.alloc _).alloc _).drew).cell (i := 3) rfl
  go_region_law (rw [if_pos (by rfl)]; refine wp_append_ownS _ _ 43 rfl 50 _ 3 40 Try.underlying43 info50 rfl (by decide) (ρ2.put W2.heap.size (13, 0)) (12, kc) (.slice Ac S.cs.length cc) S.cs.length (cellsV S.cs) rfl (HVC.out.symm ▸ HHA.out.c) ⟨W2.heap.size + 1, 0, none⟩ 1 1 (cellV ⟨i, (allocP S.s i (kw + 1) r').1, W2.heap.size, List.replicate (kw + 1) 0⟩) (by first | rfl | simp) rfl (fun j v hj => by rw [add_plainS]; exact HCA.out.at j |>.trans (by simpa [cellV] using hj)) (by simp [cellV, Value.oneCell']) (by unfold maxLen; omega) (by omega) ?_; intro v4 W4 ρ4 hO4 hS4; obtain ⟨g4, c4, rfl, _⟩ := hO4.some (by omega); obtain ⟨hb4, hs4, hu4⟩ := HHA.out.alc2 i (allocP S.s i (kw + 1) r').1 W2.heap.size (kw + 1) HGA.out HGT.out HGN.out hO4 hS4; have HS4 := Hd.mk hs4; have HU4 := Hd.mk hu4; have f3 := hb4.cell (i := 3) rfl; have f3f := hb4.free 3; clear hO4 hS4 hb4 hs4 hu4)
  all_goals
    generalize W4.setCell ⟨u, 3, none⟩ (.slice (some ⟨g4, 0, none⟩) (S.cs.length + 1) c4) = W5 at *
    go_wp2
    go_ret
    exact ⟨_, ρ4, by simp, ⟨a, ko, kc, _, _, HU4.out⟩, HMV.out _, (SU2.out.trans HSA.out).trans HS4.out⟩

end Go.Proofs.Ytgejmgomliadmaa
