/- The laws' user: what she does with what is there. -/
import Derived.Test.YtgejmgomliadmaaUsD
set_option linter.unusedVariables false
namespace Go.Proofs.Ytgejmgomliadmaa
open Go Go.RowKit

theorem errOf_cel {N : Nat} {s : PSt} {C : List Cel} (h : SGood N s C) {c : Cel} (hc : c ∈ C) (f : Int) : errOf s C c.reg c.at_ f = if 0 ≤ f ∧ f < c.wd then 0 else 72 := by
  obtain ⟨r, hr, ho, _⟩ := h.cel c hc
  have hop : isOpenB s c.reg = true := by
    unfold isOpenB
    have hil := (List.getElem?_eq_some_iff.1 hr).1
    have e1 : ((c.reg : Nat) : Int).toNat = c.reg := by omega
    rw [e1, List.getD_eq_getElem?_getD, hr]
    simp [ho]; omega
  unfold errOf
  rw [if_pos hop]
  cases hq : cellAt C c.reg c.at_ with
  | none => exact absurd ⟨rfl, rfl⟩ (cellAt_none hq c hc)
  | some d =>
    obtain ⟨h1, h2, h3⟩ := cellAt_some hq
    have : d = c := apart_at h.apart (fun c hc => by obtain ⟨_, _, _, h, _⟩ := h.cel c hc; exact h) h1 hc (by omega)
    subst this
    rfl

set_option maxRecDepth 100000 in
set_option maxHeartbeats 2000000 in
theorem With_get {N : Nat} (w : World) (ρ : Ghost) (u a : Nat) (S : USt) (ko kc : Nat) (vo vc : Value) (H : URepAt w ρ u a S ko kc vo vc) (hI : UInv N S) (hN : N + 1 ≤ 200) (hfr : Fresh w ρ) (d : Nat) (hd : d < 256) (r n ad f v : Int) (hz : 1 ≤ S.opn.length) (hm : d % 8 = 4) (hcs : 1 ≤ S.cs.length) :
    Calls Try.prog 27 #[.pointer (some ⟨u, 0, none⟩), .agg #[.int .u8 d, .int .i64 r, .int .i64 n, .int .i64 ad, .int .i64 f, .int .i64 v]] w (WPost ρ u S w) := by
  obtain ⟨m8, hm8⟩ : ∃ m8 : Int, (d : Int).tmod 8 = m8 := ⟨_, rfl⟩
  have hmm : m8 = ((d % 8 : Nat) : Int) := by rw [← hm8, Int.tmod_eq_emod_of_nonneg (by omega)]; omega
  have m0 : ¬ m8 = 0 := by omega
  have m1 : ¬ m8 = 1 := by omega
  have m1c : (m8 == 1) = false := by simpa using m1
  have m4 : ¬ m8 < 4 := by omega
  have m5 : m8 < 5 := by omega
  have m0b : (m8 == 0) = false := by simpa using m0
  have m1b : (m8 == 1) = false ∨ (m8 == 1) = true := by cases (m8 == 1) <;> simp
  clear hmm m1b
  obtain ⟨Ao, co, rfl, ho1, ho2⟩ := H.o.form
  have hnl := hI.nopn
  have hs0 := (Step.refl (fun _ => False) w ρ).alloc (.cells #[.int .u8 d, .int .i64 r, .int .i64 n, .int .i64 ad, .int .i64 f, .int .i64 v] 34)
  have H0 := H.step0 hs0
  have S0 := Hd.mk ((Step.refl UTag w ρ).alloc (.cells #[.int .u8 d, .int .i64 r, .int .i64 n, .int .i64 ad, .int .i64 f, .int .i64 v] 34))
  have X := Hd.mk (Blk.new' w #[.int .u8 d, .int .i64 r, .int .i64 n, .int .i64 ad, .int .i64 f, .int .i64 v] 34)
  have X0 : Hd (ρ w.heap.size = none) := ⟨hfr _ (Nat.le_refl _)⟩
  have FR := Hd.mk ((Step.refl UTag w ρ).alloc (.cells #[.int .u8 d, .int .i64 r, .int .i64 n, .int .i64 ad, .int .i64 f, .int .i64 v] 34) |>.fresh hfr)
  have hlen : S.opn.length ≤ 200 := by omega
  have HI := Hd.mk hI
  have x0 := H0.blk.cell (i := 0) rfl
  have x2 := H0.blk.cell (i := 2) rfl
  have HZ := Hd.mk hz
  have hzz : ¬ ((S.opn.length : Nat) : Int) = 0 := by omega
  obtain ⟨k, hkl, hka⟩ := around_nat r S.opn.length hz (by omega)
  have HK := Hd.mk hka
  have hki : (k : Int) < S.opn.length := by omega
  have hk0 : (0 : Int) ≤ k := by omega
  have H1 := Hd.mk H0
  have hfr' := hfr
  clear H0 H hI hs0 hfr hka
  go_enter Try.func27, Try.ntmps27
  go_wp2_with fail
  generalize w.alloc (.cells #[.int .u8 d, .int .i64 r, .int .i64 n, .int .i64 ad, .int .i64 f, .int .i64 v] 34) = W at *
  generalize w.heap.size = Xb at *
  have x1b := X.out.cell (i := 1) rfl
  go_quiet ((go_at_call 42; exact Calls.quiet_of_same (HK.out _).1))
  have hs1 := (Step.refl (fun _ => False) W ρ).drewN nq
  have H2 := H1.out.step0 hs1
  have XB := Hd.mk (hs1.blk0 X.out X0.out).1
  have XB0 := Hd.mk X0.out
  have HFR := Hd.mk hfr'
  have SU := Hd.mk (S0.out.drewN nq)
  generalize W.drewN nq = W1 at *
  obtain ⟨i, r', hik, hri, hro⟩ : ∃ (i : Nat) (r' : PReg), S.opn[k]? = some (i : Int) ∧ S.s.regs[i]? = some r' ∧ r'.op = true := by
    obtain ⟨i, r', h1, h2, h3⟩ := HI.out.opn S.opn[k] (List.getElem_mem hkl)
    exact ⟨i, r', by rw [List.getElem?_eq_getElem hkl, h1], h2, h3⟩
  have HIK := Hd.mk hik
  have HRI := Hd.mk hri
  have HRO := Hd.mk hro
  have y2 := H2.blk.cell (i := 2) rfl
  obtain ⟨g2, c2, hv, _, _, _, hc2, _, _⟩ := H2.o.some (by omega)
  have q2 := hc2 k (by omega)
  rw [ints_get hkl, List.getD_eq_getElem?_getD, hik] at q2
  simp only [Option.getD_some] at q2
  cases hv
  have HU := Hd.mk H2
  clear hs1 H2 hik hri hro hc2 x0 x2 x1b H1 HK X
  have b0 := XB.out.cell (i := 0) rfl
  obtain ⟨Ac, cc, hvc, _, _⟩ := HU.out.c.form
  have hcl : 1 ≤ S.cs.length := by omega
  obtain ⟨gc, cc', hvc2, _, _, _, hcc, _, _⟩ := HU.out.c.some (by omega)
  obtain ⟨k2, hk2l, hka2⟩ := around_nat ad S.cs.length hcl (by have := HI.out.good.ncel; unfold USt.C at this; simp at this; omega)
  have HK2 := Hd.mk hka2
  obtain ⟨c, hck⟩ : ∃ c, S.cs[k2]? = some c := ⟨_, List.getElem?_eq_getElem hk2l⟩
  obtain ⟨cv0, cv1, cv2⟩ := cellsV_get hck
  have p0 := hcc (k2 * 3) (by omega)
  have p1 := hcc (k2 * 3 + 1) (by omega)
  have p2 := hcc (k2 * 3 + 2) (by omega)
  rw [cv0] at p0
  rw [cv1] at p1
  rw [cv2] at p2
  have y3 := HU.out.blk.cell (i := 3) rfl
  rw [hvc2] at y3
  have hk2i : (k2 : Int) < S.cs.length := by omega
  have hk20 : (0 : Int) ≤ k2 := by omega
  have hcz : ¬ ((S.cs.length : Nat) : Int) = 0 := by omega
  have b3 := XB.out.cell (i := 3) rfl
  have b4 := XB.out.cell (i := 4) rfl
  have HCK := Hd.mk hck
  clear hvc hvc2 hcc hka2 hck cv0 cv1 cv2
  go_wp2_with fail
  have hs2 := (Step.refl (fun _ => False) W1 ρ).drew
  have b3d : W1.drew.cell? ⟨Xb, 3, none⟩ = some (.int .i64 ad) := b3
  have y3d : W1.drew.cell? ⟨u, 3, none⟩ = some (.slice (some ⟨gc, 0, none⟩) S.cs.length cc') := y3
  have p0d : W1.drew.cell? ⟨gc, k2 * 3, none⟩ = some (.int .i64 c.reg) := p0
  have p1d : W1.drew.cell? ⟨gc, k2 * 3 + 1, none⟩ = some (.int .i64 c.at_) := p1
  have p2d : W1.drew.cell? ⟨gc, k2 * 3 + 2, none⟩ = some (.slice (some ⟨c.g, 0, none⟩) c.fs.length c.fs.length) := p2
  go_region_held3 (fun wv => wv.cell? ⟨Xb, 3, none⟩ = some (.int .i64 ad) ∧ wv.cell? ⟨u, 3, none⟩ = some (.slice (some ⟨gc, 0, none⟩) S.cs.length cc') ∧ wv.cell? ⟨gc, k2 * 3, none⟩ = some (.int .i64 c.reg) ∧ wv.cell? ⟨gc, k2 * 3 + 1, none⟩ = some (.int .i64 c.at_) ∧ wv.cell? ⟨gc, k2 * 3 + 2, none⟩ = some (.slice (some ⟨c.g, 0, none⟩) c.fs.length c.fs.length)) (first | assumption | go_keep) (first | (go_at_call 42; refine (HK2.out _).2.mono ?_; rintro e w' ⟨rfl, rfl⟩))
  all_goals
    clear b3d y3d p0d p1d p2d hs2
    have hs2 := ((Step.refl (fun _ => False) W1 ρ).alloc (.cells #[.int .i64 c.reg, .int .i64 c.at_, .slice (some ⟨c.g, 0, none⟩) c.fs.length c.fs.length] 50)).drew
    have XB2 := hs2.blk0 XB.out XB0.out
    have HU2 := HU.out.step0 hs2
    have CB : Blk (W1.alloc (.cells #[.int .i64 c.reg, .int .i64 c.at_, .slice (some ⟨c.g, 0, none⟩) c.fs.length c.fs.length] 50)).drew W1.heap.size 50 [.int .i64 c.reg, .int .i64 c.at_, .slice (some ⟨c.g, 0, none⟩) c.fs.length c.fs.length] := (Blk.new' W1 #[.int .i64 c.reg, .int .i64 c.at_, .slice (some ⟨c.g, 0, none⟩) c.fs.length c.fs.length] 50).drew
    have CB0 : ρ W1.heap.size = none := SU.out.fresh HFR.out _ (Nat.le_refl _)
    have SU2 := Hd.mk (SU.out.trans (hs2.mono (fun _ h => h.elim)))
    generalize (W1.alloc (.cells #[.int .i64 c.reg, .int .i64 c.at_, .slice (some ⟨c.g, 0, none⟩) c.fs.length c.fs.length] 50)).drew = W2 at *
    generalize W1.heap.size = Xc at *
    have hcm := List.mem_of_getElem? HCK.out
    have hcC : c.cel ∈ S.C := List.mem_map.2 ⟨c, hcm, rfl⟩
    obtain ⟨_, _, _, hw1, hw2, _⟩ := HI.out.good.cel c.cel hcC
    have hw1 : 1 ≤ c.fs.length := hw1
    have hw2 : c.fs.length ≤ 4097 := hw2
    obtain ⟨fk, hfl, hfa⟩ := around_nat f c.fs.length hw1 (by omega)
    have HFA := Hd.mk hfa
    have b0 := XB2.1.cell (i := 0) rfl
    have b4 := XB2.1.cell (i := 4) rfl
    have c2 := CB.cell (i := 2) rfl
    have HXB2 := Hd.mk XB2
    have HCM := Hd.mk hcm
    have HCC := Hd.mk hcC
    have HHU2 := Hd.mk HU2
    have HCB := Hd.mk CB
    have HCB0 := Hd.mk CB0
    clear hs2 XB2 HU2 CB CB0 hcm hcC hfa p0 p1 p2 y3 b3 q2 y2
    go_wp2_with fail
    refine (HFA.out _).2.mono ?_
    rintro e w' ⟨rfl, rfl⟩
    go_wp2_with fail
    have hs3 := (Step.refl (fun _ => False) W2 ρ).drew
    have hget := get_good HI.out.good (by omega) W2.drew ρ a (HHU2.out.step0 hs3).st c.reg c.at_ fk
    have hcd : c.cel.wd = c.fs.length := rfl
    have her := errOf_cel HI.out.good HCC.out fk
    rw [if_pos ⟨by omega, by rw [hcd]; omega⟩] at her
    have her : errOf S.s S.C c.reg c.at_ fk = 0 := her
    rw [her, if_pos rfl] at hget
    have ev : S.s.data.getD ((c.at_ : Int) + fk).toNat 0 = c.fs.getD fk 0 := by
      have := HI.out.data c HCM.out fk hfl
      rw [← this]; congr 1
    rw [ev] at hget
    have HG := Hd.mk hget
    have HY : Hd (∀ (W' : World) (T : TypeId), Blk W' c.g T (ints c.fs) → W'.cell? ⟨c.g, fk, none⟩ = some (.int .i64 (c.fs.getD fk 0))) := ⟨fun W' T hb => hb.cell (ints_get hfl)⟩
    generalize c.fs.getD fk 0 = y at *
    have d0 : W2.drew.cell? ⟨u, 0, none⟩ = some (.pointer (some ⟨a, 0, none⟩)) := HHU2.out.blk.cell (i := 0) rfl
    have d1 : W2.drew.cell? ⟨Xc, 0, none⟩ = some (.int .i64 c.reg) := HCB.out.cell (i := 0) rfl
    have d2 : W2.drew.cell? ⟨Xc, 1, none⟩ = some (.int .i64 c.at_) := HCB.out.cell (i := 1) rfl
    have hfi : (fk : Int) < c.fs.length := by omega
    have hfi0 : (0 : Int) ≤ fk := by omega
    clear hget her ev b0 b4 c2
    go_region_held3 (fun wv => wv.cell? ⟨u, 0, none⟩ = some (.pointer (some ⟨a, 0, none⟩)) ∧ wv.cell? ⟨Xc, 0, none⟩ = some (.int .i64 c.reg) ∧ wv.cell? ⟨Xc, 1, none⟩ = some (.int .i64 c.at_)) (first | assumption | (refine ⟨?_, ?_, ?_⟩ <;> assumption)) (first | (go_at_call 17; refine HG.out.mono ?_; rintro e W3 ⟨rfl, hb3⟩; have hs4 := hs3.trans ((Step.refl (fun _ => False) W2.drew ρ).of_below hb3); have HU4 := Hd.mk (HHU2.out.step0 hs4); have CB4 := Hd.mk (hs4.blk0 HCB.out HCB0.out).1; have SU4 := Hd.mk (SU2.out.trans (hs4.mono (fun _ h => h.elim))); have f0 := HU4.out.blk.cell (i := 0) rfl; have f1 := CB4.out.cell (i := 0) rfl; have f2 := CB4.out.cell (i := 1) rfl; clear hs4 hb3))
    have f3 := CB4.out.cell (i := 2) rfl
    have f4 := HY.out _ _ (HU4.out.f c HCM.out).1
    clear hs3 d0 d1 d2 f0 f1 f2
    go_wp2
    go_ret
    exact ⟨S, ρ, by simp, ⟨a, ko, kc, _, vc, HU4.out⟩, UMove.same, SU4.out⟩

end Go.Proofs.Ytgejmgomliadmaa
