/- The laws' user: what she does with what is there. -/
import Derived.Test.YtgejmgomliadmaaUsC
set_option linter.unusedVariables false
namespace Go.Proofs.Ytgejmgomliadmaa
open Go Go.RowKit

set_option maxRecDepth 100000 in
set_option maxHeartbeats 2000000 in
theorem With_none {N : Nat} (w : World) (ρ : Ghost) (u a : Nat) (S : USt) (ko kc : Nat) (vo vc : Value) (H : URepAt w ρ u a S ko kc vo vc) (hI : UInv N S) (hN : N + 1 ≤ 200) (hfr : Fresh w ρ) (d : Nat) (hd : d < 256) (r n ad f v : Int) (hz : 1 ≤ S.opn.length) (hm : 4 ≤ d % 8) (hcs : S.cs = []) :
    Calls Try.prog 27 #[.pointer (some ⟨u, 0, none⟩), .agg #[.int .u8 d, .int .i64 r, .int .i64 n, .int .i64 ad, .int .i64 f, .int .i64 v]] w (WPost ρ u S w) := by
  obtain ⟨m8, hm8⟩ : ∃ m8 : Int, (d : Int).tmod 8 = m8 := ⟨_, rfl⟩
  have hmm : m8 = ((d % 8 : Nat) : Int) := by rw [← hm8, Int.tmod_eq_emod_of_nonneg (by omega)]; omega
  have m0 : ¬ m8 = 0 := by omega
  have m1 : ¬ m8 = 1 := by omega
  have m1c : (m8 == 1) = false := by simpa using m1
  have m4 : ¬ m8 < 4 := by omega
  have m0b : (m8 == 0) = false := by simpa using m0
  have m1b : (m8 == 1) = false ∨ (m8 == 1) = true := by cases (m8 == 1) <;> simp
  clear hmm m1b
  obtain ⟨Ao, co, rfl, ho1, ho2⟩ := H.o.form
  have hnl := hI.nopn
  have hs0 := (Step.refl (fun _ => False) w ρ).alloc (.cells #[.int .u8 d, .int .i64 r, .int .i64 n, .int .i64 ad, .int .i64 f, .int .i64 v] 34)
  have H0 := H.step0 hs0
  have S0 := Hd.mk ((Step.refl UTag w ρ).alloc (.cells #[.int .u8 d, .int .i64 r, .int .i64 n, .int .i64 ad, .int .i64 f, .int .i64 v] 34))
  have X := Hd.mk (Blk.new' w #[.int .u8 d, .int .i64 r, .int .i64 n, .int .i64 ad, .int .i64 f, .int .i64 v] 34)
  have X0 : Hd (ρ w.heap.size = none) := ⟨hfr _ (Nat.le_refl _)⟩
  have FR := Hd.mk ((Step.refl UTag w ρ).alloc (.cells #[.int .u8 d, .int .i64 r, .int .i64 n, .int .i64 ad, .int .i64 f, .int .i64 v] 34) |>.fresh hfr)
  have hlen : S.opn.length ≤ 200 := by omega
  have HI := Hd.mk hI
  have x0 := H0.blk.cell (i := 0) rfl
  have x2 := H0.blk.cell (i := 2) rfl
  have HZ := Hd.mk hz
  have hzz : ¬ ((S.opn.length : Nat) : Int) = 0 := by omega
  obtain ⟨k, hkl, hka⟩ := around_nat r S.opn.length hz (by omega)
  have HK := Hd.mk hka
  have hki : (k : Int) < S.opn.length := by omega
  have hk0 : (0 : Int) ≤ k := by omega
  have H1 := Hd.mk H0
  have hfr' := hfr
  clear H0 H hI hs0 hfr hka
  go_enter Try.func27, Try.ntmps27
  go_wp2_with fail
  generalize w.alloc (.cells #[.int .u8 d, .int .i64 r, .int .i64 n, .int .i64 ad, .int .i64 f, .int .i64 v] 34) = W at *
  generalize w.heap.size = Xb at *
  have x1b := X.out.cell (i := 1) rfl
  go_quiet ((go_at_call 42; exact Calls.quiet_of_same (HK.out _).1))
  have hs1 := (Step.refl (fun _ => False) W ρ).drewN nq
  have H2 := H1.out.step0 hs1
  have XB := Hd.mk (hs1.blk0 X.out X0.out).1
  have XB0 := Hd.mk X0.out
  have HFR := Hd.mk hfr'
  have SU := Hd.mk (S0.out.drewN nq)
  generalize W.drewN nq = W1 at *
  obtain ⟨i, r', hik, hri, hro⟩ : ∃ (i : Nat) (r' : PReg), S.opn[k]? = some (i : Int) ∧ S.s.regs[i]? = some r' ∧ r'.op = true := by
    obtain ⟨i, r', h1, h2, h3⟩ := HI.out.opn S.opn[k] (List.getElem_mem hkl)
    exact ⟨i, r', by rw [List.getElem?_eq_getElem hkl, h1], h2, h3⟩
  have HIK := Hd.mk hik
  have HRI := Hd.mk hri
  have HRO := Hd.mk hro
  have y2 := H2.blk.cell (i := 2) rfl
  obtain ⟨g2, c2, hv, _, _, _, hc2, _, _⟩ := H2.o.some (by omega)
  have q2 := hc2 k (by omega)
  rw [ints_get hkl, List.getD_eq_getElem?_getD, hik] at q2
  simp only [Option.getD_some] at q2
  cases hv
  have HU := Hd.mk H2
  clear hs1 H2 hik hri hro hc2 x0 x2 x1b H1 HK X
  have b0 := XB.out.cell (i := 0) rfl
  have y3 := HU.out.blk.cell (i := 3) rfl
  obtain ⟨Ac, cc, hvc, _, _⟩ := HU.out.c.form
  rw [hvc, hcs] at y3
  clear hvc hcs
  go_wp2
  go_ret
  exact ⟨S, ρ, rfl, ⟨a, ko, kc, _, vc, HU.out⟩, UMove.same, SU.out⟩

end Go.Proofs.Ytgejmgomliadmaa
