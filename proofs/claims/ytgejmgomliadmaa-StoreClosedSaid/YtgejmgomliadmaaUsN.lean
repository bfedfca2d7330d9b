/- The laws' user: what she does with what is there. -/
import Derived.Test.YtgejmgomliadmaaUsM
set_option linter.unusedVariables false
namespace Go.Proofs.Ytgejmgomliadmaa
open Go Go.RowKit

theorem URepAt.opn' {w : World} {ρ : Ghost} {u a : Nat} {S : USt} {ko kc : Nat} {vo vc : Value} (h : URepAt w ρ u a S ko kc vo vc) (l : List Int)
    {w' : World} {ρ' : Ghost} {v' : Value} (hO : OwnSl w' ρ' (11, ko + 1) 3 1 v' l.length (ints l)) (hs : Step (· = (11, ko + 1)) w ρ w' ρ') :
    Blk w' u 45 [.pointer (some ⟨a, 0, none⟩), .int .i64 S.many, vo, vc, .bool S.large] ∧ Step UTag w ρ (w'.setCell ⟨u, 2, none⟩ v') ρ' ∧
    URepAt (w'.setCell ⟨u, 2, none⟩ v') ρ' u a ⟨S.s, S.many, l, S.cs, S.large⟩ (ko + 1) kc v' vc := by
  have hb := hs.blk' h.blk h.tag (by simp)
  have ht := hs.tag h.blk.lt h.tag
  have hc : Step (· = ((10, 0) : Tag)) w' ρ' (w'.setCell ⟨u, 2, none⟩ v') ρ' := Step.setCell (T := fun x => x = ((10, 0) : Tag)) (Step.refl _ w' ρ') (a := ⟨u, 2, none⟩) ht rfl _
  refine ⟨hb, (hs.mono (by rintro t rfl; exact utag_ge (by simp) (by simp))).trans (hc.mono (by rintro t rfl; exact utag_ge (by simp) (by simp))), ?_⟩
  exact {
    blk := hb.setCell 2 v'
    tag := ht
    st := (h.st.step' hs (by rintro t h1 rfl; exact not_stag (by simp) h1)).step' hc (by rintro t h1 rfl; exact not_stag (by simp) h1)
    o := hO.step hc (by simp)
    c := (h.c.step hs (by simp)).step hc (by simp)
    f := fun c hc' => ⟨hc.blk' (hs.blk' (h.f c hc').1 (h.f c hc').2 (by simp)) (hs.tag (h.f c hc').1.lt (h.f c hc').2) (by simp), hs.tag (h.f c hc').1.lt (h.f c hc').2⟩
    nd := h.nd }
theorem URepAt.cs' {w : World} {ρ : Ghost} {u a : Nat} {S : USt} {ko kc : Nat} {vo vc : Value} (h : URepAt w ρ u a S ko kc vo vc) (p : UC → Bool)
    {w' : World} {ρ' : Ghost} {v' : Value} (hO : OwnSl w' ρ' (12, kc + 1) 50 3 v' (S.cs.filter p).length (cellsV (S.cs.filter p))) (hs : Step (· = (12, kc + 1)) w ρ w' ρ') :
    Blk w' u 45 [.pointer (some ⟨a, 0, none⟩), .int .i64 S.many, vo, vc, .bool S.large] ∧ Step UTag w ρ (w'.setCell ⟨u, 3, none⟩ v') ρ' ∧
    URepAt (w'.setCell ⟨u, 3, none⟩ v') ρ' u a ⟨S.s, S.many, S.opn, S.cs.filter p, S.large⟩ ko (kc + 1) vo v' := by
  have hb := hs.blk' h.blk h.tag (by simp)
  have ht := hs.tag h.blk.lt h.tag
  have hc : Step (· = ((10, 0) : Tag)) w' ρ' (w'.setCell ⟨u, 3, none⟩ v') ρ' := Step.setCell (T := fun x => x = ((10, 0) : Tag)) (Step.refl _ w' ρ') (a := ⟨u, 3, none⟩) ht rfl _
  refine ⟨hb, (hs.mono (by rintro t rfl; exact utag_ge (by simp) (by simp))).trans (hc.mono (by rintro t rfl; exact utag_ge (by simp) (by simp))), ?_⟩
  exact {
    blk := hb.setCell 3 v'
    tag := ht
    st := (h.st.step' hs (by rintro t h1 rfl; exact not_stag (by simp) h1)).step' hc (by rintro t h1 rfl; exact not_stag (by simp) h1)
    o := (h.o.step hs (by simp)).step hc (by simp)
    c := hO.step hc (by simp)
    f := fun c hc' => by
      have hc' : c ∈ S.cs := (List.mem_filter.1 hc').1
      exact ⟨hc.blk' (hs.blk' (h.f c hc').1 (h.f c hc').2 (by simp)) (hs.tag (h.f c hc').1.lt (h.f c hc').2) (by simp), hs.tag (h.f c hc').1.lt (h.f c hc').2⟩
    nd := (List.filter_sublist.map _).nodup h.nd }
theorem URepAt.stepT {T : Tag → Prop} {w w1 : World} {ρ ρ1 : Ghost} {u a : Nat} {S : USt} {ko kc : Nat} {vo vc : Value} (h : URepAt w ρ u a S ko kc vo vc) (hs : Step T w ρ w1 ρ1) (h0 : ¬ T (10, 0)) (h1 : ¬ T (11, ko)) (h2 : ¬ T (12, kc)) (h3 : ¬ T (13, 0)) (h4 : ∀ t, T t → ¬ STag t) : URepAt w1 ρ1 u a S ko kc vo vc where
  blk := hs.blk' h.blk h.tag h0
  tag := hs.tag h.blk.lt h.tag
  st := h.st.step' hs (fun t ht hT => h4 t hT ht)
  o := h.o.step hs h1
  c := h.c.step hs h2
  f := fun c hc => ⟨hs.blk' (h.f c hc).1 (h.f c hc).2 h3, hs.tag (h.f c hc).1.lt (h.f c hc).2⟩
  nd := h.nd
theorem slice_h28 (w : World) (g n c k : Nat) (hk : k ≤ c) :
    (Instr.slice 28 (.slice (some ⟨g, 0, none⟩) n c) none (some (.int .i64 k)) none).run Try.prog w = .ok (.slice (some ⟨g, 0, none⟩) k c) w := by
  have hsz : ∀ w, (sizeOf (Try.prog.elem 28)).run Try.prog w = .ok 1 w := fun _ => by kernel_rfl
  rw [run_slice_h w 28 _ n c (by kernel_rfl) .i64 k (by omega) (by omega), hsz]
  simp only [Result.andThen_ok, sliced, Int.toNat_natCast, Nat.sub_zero, Nat.zero_mul, Option.map_some, add_plainS]
  congr 2
  split <;> rfl
theorem slice_l28 (w : World) (g n c k : Nat) (hk : k ≤ n) :
    (Instr.slice 28 (.slice (some ⟨g, 0, none⟩) n c) (some (.int .i64 k)) none none).run Try.prog w = .ok (.slice (some (if c = k then ⟨g, 0, none⟩ else ⟨g, k, none⟩)) (n - k) (c - k)) w := by
  have hsz : ∀ w, (sizeOf (Try.prog.elem 28)).run Try.prog w = .ok 1 w := fun _ => by kernel_rfl
  rw [run_slice_l w 28 _ n c (by kernel_rfl) .i64 k (by omega) (by omega), hsz]
  simp only [Result.andThen_ok, sliced, Int.toNat_natCast, Nat.mul_one, Option.map_some, add_plainS]
  split <;> rfl

set_option maxRecDepth 100000 in
set_option maxHeartbeats 2000000 in
theorem With_close {N : Nat} (w : World) (ρ : Ghost) (u a : Nat) (S : USt) (ko kc : Nat) (vo vc : Value) (H : URepAt w ρ u a S ko kc vo vc) (hI : UInv N S) (hN : N + 1 ≤ 200) (hfr : Fresh w ρ) (d : Nat) (hd : d < 256) (r n ad f v : Int) (hz : 1 ≤ S.opn.length) (hm : d % 8 = 1) :
    Calls Try.prog 27 #[.pointer (some ⟨u, 0, none⟩), .agg #[.int .u8 d, .int .i64 r, .int .i64 n, .int .i64 ad, .int .i64 f, .int .i64 v]] w (WPost ρ u S w) := by
  obtain ⟨m8, hm8⟩ : ∃ m8 : Int, (d : Int).tmod 8 = m8 := ⟨_, rfl⟩
  have hmm : m8 = ((d % 8 : Nat) : Int) := by rw [← hm8, Int.tmod_eq_emod_of_nonneg (by omega)]; omega
  have m0 : ¬ m8 = 0 := by omega
  have m1 : m8 = 1 := by omega
  have m0b : (m8 == 0) = false := by simpa using m0
  clear hmm
  subst m1
  obtain ⟨Ao, co, rfl, ho1, ho2⟩ := H.o.form
  have hnl := hI.nopn
  have hs0 := (Step.refl (fun _ => False) w ρ).alloc (.cells #[.int .u8 d, .int .i64 r, .int .i64 n, .int .i64 ad, .int .i64 f, .int .i64 v] 34)
  have H0 := H.step0 hs0
  have S0 := Hd.mk ((Step.refl UTag w ρ).alloc (.cells #[.int .u8 d, .int .i64 r, .int .i64 n, .int .i64 ad, .int .i64 f, .int .i64 v] 34))
  have X := Hd.mk (Blk.new' w #[.int .u8 d, .int .i64 r, .int .i64 n, .int .i64 ad, .int .i64 f, .int .i64 v] 34)
  have X0 : Hd (ρ w.heap.size = none) := ⟨hfr _ (Nat.le_refl _)⟩
  have FR := Hd.mk ((Step.refl UTag w ρ).alloc (.cells #[.int .u8 d, .int .i64 r, .int .i64 n, .int .i64 ad, .int .i64 f, .int .i64 v] 34) |>.fresh hfr)
  have hlen : S.opn.length ≤ 200 := by omega
  have HI := Hd.mk hI
  have x0 := H0.blk.cell (i := 0) rfl
  have x2 := H0.blk.cell (i := 2) rfl
  have HZ := Hd.mk hz
  have hzz : ¬ ((S.opn.length : Nat) : Int) = 0 := by omega
  obtain ⟨k, hkl, hka⟩ := around_nat r S.opn.length hz (by omega)
  have HK := Hd.mk hka
  have hki : (k : Int) < S.opn.length := by omega
  have hk0 : (0 : Int) ≤ k := by omega
  have H1 := Hd.mk H0
  have hfr' := hfr
  clear H0 H hI hs0 hfr hka
  go_enter Try.func27, Try.ntmps27
  go_wp2_with fail
  generalize w.alloc (.cells #[.int .u8 d, .int .i64 r, .int .i64 n, .int .i64 ad, .int .i64 f, .int .i64 v] 34) = W at *
  generalize w.heap.size = Xb at *
  have x1b := X.out.cell (i := 1) rfl
  go_quiet ((go_at_call 42; exact Calls.quiet_of_same (HK.out _).1))
  have hs1 := (Step.refl (fun _ => False) W ρ).drewN nq
  have H2 := H1.out.step0 hs1
  have XB := Hd.mk (hs1.blk0 X.out X0.out).1
  have XB0 := Hd.mk X0.out
  have HFR := Hd.mk hfr'
  have SU := Hd.mk (S0.out.drewN nq)
  generalize W.drewN nq = W1 at *
  obtain ⟨i, r', hik, hri, hro⟩ : ∃ (i : Nat) (r' : PReg), S.opn[k]? = some (i : Int) ∧ S.s.regs[i]? = some r' ∧ r'.op = true := by
    obtain ⟨i, r', h1, h2, h3⟩ := HI.out.opn S.opn[k] (List.getElem_mem hkl)
    exact ⟨i, r', by rw [List.getElem?_eq_getElem hkl, h1], h2, h3⟩
  have HIK := Hd.mk hik
  have HRI := Hd.mk hri
  have HRO := Hd.mk hro
  have y2 := H2.blk.cell (i := 2) rfl
  obtain ⟨g2, c2, hv, _, _, _, hc2, _, _⟩ := H2.o.some (by omega)
  have q2 := hc2 k (by omega)
  rw [ints_get hkl, List.getD_eq_getElem?_getD, hik] at q2
  simp only [Option.getD_some] at q2
  cases hv
  have HC2 := Hd.mk hc2
  have HU := Hd.mk H2
  clear hs1 H2 hik hri hro hc2 x0 x2 x1b H1 HK X
  have b0 := XB.out.cell (i := 0) rfl
  have hc2n : (S.opn.length : Int) ≤ co := by omega
  have hkc : (k : Int) ≤ co := by omega
  have hnews1 : ∀ j v, (ints (S.opn.take k))[j]? = some v → W1.cell? ((⟨g2, 0, none⟩ : Addr).add j) = some v := by
    intro j v hj
    have e1 : ints (S.opn.take k) = (ints S.opn).take k := by simp [ints, List.map_take]
    rw [e1, List.getElem?_take] at hj
    split at hj
    · rw [add_plainS, HC2.out j (by omega)]; exact hj
    · cases hj
  have HN1 := Hd.mk hnews1
  clear hnews1
  have hsl1 := slice_h28 W1 g2 S.opn.length co k (by omega)
  go_wp2_with (at_builtin; refine wpList_appendS rfl _ _ _ rfl 3 _ 1 8 Try.underlying28 info3 rfl (by decide) ρ (11, ko + 1) (.slice none 0 0) 0 [] rfl (OwnSl.nil _ _ _ _ _) ⟨g2, 0, none⟩ k co (ints (S.opn.take k)) (by first | rfl | simp) (by rw [ints_length, List.length_take]; omega) HN1.out (by intro u hu; obtain ⟨x, _, rfl⟩ := List.mem_map.1 hu; rfl) (by unfold maxLen; omega) (by omega) ?z1)
  case z1 =>
  intro v2 W2 ρ2 hO2 hS2
  obtain ⟨A2, c2', rfl, _, _⟩ := hO2.form
  have h2 := HU.out.stepT hS2 (by simp) (by simp) (by simp) (by simp) (by rintro t rfl; exact not_stag (by simp))
  have SU2 := Hd.mk (SU.out.trans (hS2.mono (by rintro t rfl; exact utag_ge (by simp) (by simp))))
  have x2 := hS2.blk0 XB.out XB0.out
  have z2 := h2.blk.cell (i := 2) rfl
  have hsl2 := slice_l28 W2 g2 S.opn.length co (k + 1) (by omega)
  have hnews2 : ∀ j v, (ints (S.opn.drop (k + 1)))[j]? = some v → W2.cell? ((if co = k + 1 then (⟨g2, 0, none⟩ : Addr) else ⟨g2, k + 1, none⟩).add j) = some v := by
    intro j v hj
    have hjl : j < S.opn.length - (k + 1) := by
      have := (List.getElem?_eq_some_iff.1 hj).1
      rw [ints_length, List.length_drop] at this
      exact this
    obtain ⟨g', c', hv', _, _, _, hc', _, _⟩ := h2.o.some (by omega)
    cases hv'
    rw [if_neg (by omega)]
    have e1 : ints (S.opn.drop (k + 1)) = (ints S.opn).drop (k + 1) := by simp [ints, List.map_drop]
    rw [e1, List.getElem?_drop] at hj
    have e2 : (⟨g2, k + 1, none⟩ : Addr).add j = ⟨g2, k + 1 + j, none⟩ := by unfold Addr.add; split <;> simp_all
    rw [e2, hc' (k + 1 + j) (by omega)]
    exact hj
  generalize (if co = k + 1 then (⟨g2, 0, none⟩ : Addr) else ⟨g2, k + 1, none⟩) = ad2 at hsl2 hnews2
  have ek : ((k + 1 : Nat) : Int) = (k : Int) + 1 := by omega
  rw [ek] at hsl2
  have ew : IntKind.i64.wrap ((k : Int) + 1) = (k : Int) + 1 := IntWalk.i64_in _ (by omega)
  have HN2 := Hd.mk hnews2
  have HH2 := Hd.mk h2
  have HO2 := Hd.mk hO2
  have XB2 := Hd.mk x2
  clear hO2 hS2 h2 x2 hnews2 ek y2 q2 b0 hsl1
  go_wp2_with (at_builtin; refine wpList_appendS rfl _ _ _ rfl 3 _ 1 8 Try.underlying28 info3 rfl (by decide) ρ2 (11, ko + 1) (.slice A2 k c2') k (ints (S.opn.take k)) rfl HO2.out ad2 (S.opn.length - (k + 1)) (co - (k + 1)) (ints (S.opn.drop (k + 1))) (by first | rfl | simp) (by rw [ints_length, List.length_drop]; omega) HN2.out (by intro u hu; obtain ⟨x, _, rfl⟩ := List.mem_map.1 hu; rfl) (by unfold maxLen; omega) (by omega) ?z2)
  case z2 =>
  intro v3 W3 ρ3 hO3 hS3
  have eo : ints (S.opn.take k) ++ ints (S.opn.drop (k + 1)) = ints (S.opn.take k ++ S.opn.drop (k + 1)) := by simp [ints]
  have el : k + (S.opn.length - (k + 1)) = (S.opn.take k ++ S.opn.drop (k + 1)).length := by rw [List.length_append, List.length_take, List.length_drop]; omega
  rw [eo, el] at hO3
  clear eo el
  generalize hlo : S.opn.take k ++ S.opn.drop (k + 1) = lo at hO3
  have HLO := Hd.mk hlo
  clear hlo
  obtain ⟨A3, c3, rfl, _, _⟩ := hO3.form
  obtain ⟨hb3, hs3, hu3⟩ := HH2.out.opn' lo hO3 hS3
  have f2 := hb3.cell (i := 2) rfl
  have f2f := hb3.free 2
  have HU3 := Hd.mk hu3
  have SU3 := Hd.mk (SU2.out.trans hs3)
  clear hO3 hS3 hb3 hs3 hu3 z2 hsl2
  go_wp2_with fail
  generalize W3.setCell ⟨u, 2, none⟩ (.slice A3 lo.length c3) = W4 at *
  clear f2 f2f
  obtain ⟨Ac, cc, hvc, _, _⟩ := HU3.out.c.form
  have HVC := Hd.mk hvc
  have hncs : S.cs.length ≤ 200 := by have := HI.out.good.ncel; unfold USt.C at this; simp at this; omega
  clear hvc
  go_loopw [9, 10] (fun vl vj wr => ∃ (j : Nat) (ρr : Ghost), vj = .int .i64 j ∧ j ≤ S.cs.length ∧ OwnSl wr ρr (12, kc + 1) 50 3 vl ((S.cs.take j).filter (fun c => c.reg != i)).length (cellsV ((S.cs.take j).filter (fun c => c.reg != i))) ∧ Step (· = (12, kc + 1)) W4 ρ3 wr ρr) (fun _ v _ => S.cs.length - (intOf v).toNat)
  case atStart => exact ⟨0, ρ3, by simp, by omega, by simpa [cellsV] using OwnSl.nil _ _ _ _ _, Step.refl _ _ _⟩
  case round =>
    obtain ⟨j, ρr, rfl, hj, hO, hS⟩ := hrel
    have HR := Hd.mk (HU3.out.stepT hS (by simp) (by simp) (by simp) (by simp) (by rintro t rfl; exact not_stag (by simp)))
    have HO := Hd.mk hO
    have HS := Hd.mk hS
    have r3 := HR.out.blk.cell (i := 3) rfl
    rw [HVC.out] at r3
    clear hO hS
    by_cases hlt : j < S.cs.length
    · obtain ⟨gc, cc', hvc2, _, _, _, hcc, _, _⟩ := HR.out.c.some (by dsimp only; omega)
      obtain ⟨c, hck⟩ : ∃ c, S.cs[j]? = some c := ⟨_, List.getElem?_eq_getElem hlt⟩
      obtain ⟨cv0, cv1, cv2⟩ := cellsV_get hck
      dsimp only at hcc
      have p0 := hcc (j * 3) (by omega)
      have p1 := hcc (j * 3 + 1) (by omega)
      have p2 := hcc (j * 3 + 2) (by omega)
      rw [cv0] at p0
      rw [cv1] at p1
      rw [cv2] at p2
      have hvv := HVC.out
      rw [hvc2] at hvv
      injection hvv with hA hN hC
      subst hA; subst hC
      clear hcc cv0 cv1 cv2 hN hvc2
      have htk : (S.cs.take (j + 1)).filter (fun c => c.reg != i) = (S.cs.take j).filter (fun c => c.reg != i) ++ [c].filter (fun c => c.reg != i) := by
        rw [List.take_add_one, hck, Option.toList_some, List.filter_append]
      have HTK := Hd.mk htk
      have ejj : IntKind.i64.wrap ((j : Int) + 1) = (j : Int) + 1 := IntWalk.i64_in _ (by omega)
      clear htk
      by_cases hri : c.reg = i
      · rw [hri] at p0
        have hf : [c].filter (fun c => c.reg != i) = [] := by simp [hri]
        have HFI := Hd.mk hf
        clear hf hri
        go_wp2
        go_roundw
        case rel =>
          refine ⟨j + 1, ρr, by go_num, by omega, ?_, HS.out⟩
          rw [HTK.out, HFI.out, List.append_nil]
          exact HO.out
        case measure => simp [intOf]; omega
      · have hf : [c].filter (fun c => c.reg != i) = [c] := by simp [hri]
        have HFI := Hd.mk hf
        have hri' : ¬ ((c.reg : Nat) : Int) = ((i : Nat) : Int) := by omega
        have hfl : ((S.cs.take j).filter (fun c => c.reg != i)).length ≤ 200 := by
          have h1 := List.length_filter_le (fun c => c.reg != i) (S.cs.take j)
          rw [List.length_take] at h1
          omega
        clear hf hri
        obtain ⟨Al, cl, rfl, _, _⟩ := HO.out.form
        have HB := Hd.mk (HR.out.stepT (Step.refl (· = (12, kc + 1)) wr ρr) (by simp) (by simp) (by simp) (by simp) (by rintro t rfl; exact not_stag (by simp)))
        go_wp2_with (at_builtin; refine wpList_append_boxW rfl _ _ _ rfl 50 _ 3 40 Try.underlying43 info50 rfl (by decide) ρr (12, kc + 1) (.slice Al ((S.cs.take j).filter (fun c => c.reg != i)).length cl) ((S.cs.take j).filter (fun c => c.reg != i)).length _ (cellV c) rfl HO.out 1 _ rfl (by first | rfl | simp) rfl (by simp [cellV, Value.oneCell']) (by unfold maxLen; omega) (by omega) ?z3)
        case z3 =>
          intro v5 W5 ρ5 hO5 hS5
          have HO5 := Hd.mk hO5
          have HS5 := Hd.mk (HS.out.trans hS5)
          clear hO5 hS5
          go_wp2
          go_roundw
          case rel =>
            refine ⟨j + 1, ρ5, by go_num, by omega, ?_, HS5.out⟩
            rw [HTK.out, HFI.out, List.length_append, cellsV_add]
            exact HO5.out
          case measure => simp [intOf]; omega
    · have hje : j = S.cs.length := by omega
      subst hje
      have hO := HO.out
      rw [List.take_length] at hO
      obtain ⟨Al, cl, rfl, _, _⟩ := hO.form
      obtain ⟨hb5, hs5, hu5⟩ := HU3.out.cs' (fun c => c.reg != i) hO HS.out
      generalize hlc : S.cs.filter (fun c => c.reg != i) = lc at hO hb5 hs5 hu5 ⊢
      have HLC := Hd.mk hlc
      have f3 := hb5.cell (i := 3) rfl
      have f3f := hb5.free 3
      have f0 := hu5.blk.cell (i := 0) rfl
      have HU5 := Hd.mk hu5
      have SU5 := Hd.mk (SU3.out.trans hs5)
      clear hO hb5 hs5 hu5 hlc
      have hcl := (close_good HI.out.good (by omega) (i : Int)).2
      have hop : isOpenB S.s i = true := by
        unfold isOpenB
        have hil := (List.getElem?_eq_some_iff.1 HRI.out).1
        have e1 : ((i : Nat) : Int).toNat = i := by omega
        rw [e1, List.getD_eq_getElem?_getD, HRI.out]
        simp [HRO.out]; omega
      have e1 : ((i : Nat) : Int).toNat = i := by omega
      have e2 : S.s.regs.getD i PReg.none = r' := by rw [List.getD_eq_getElem?_getD, HRI.out]; rfl
      unfold closeP closeE at hcl
      rw [if_pos hop, if_pos hop, e1, e2] at hcl
      have hno : isOpenB (closeS S.s i r') i = false := by
        unfold isOpenB closeS
        rw [e1, List.getD_eq_getElem?_getD, List.getElem?_set, if_pos rfl]
        split <;> simp [PReg.none]
      have HNO := Hd.mk hno
      have HCL := Hd.mk hcl
      clear hcl hop e1 e2 hno
      go_wp2_with fail
      refine (HCL.out _ ρr a HU5.out.st).mono ?_
      generalize wr.setCell ⟨u, 3, none⟩ (.slice Al lc.length cl) = W5 at *
      clear f0 f3 f3f r3
      rintro e W6 ⟨ρ6, rfl, R6, hs6⟩
      have HU6 := Hd.mk (HU5.out.store hs6 R6)
      have SU6 := Hd.mk (SU5.out.trans (hs6.mono stag_utag))
      have f0 : W6.cell? ⟨u, 0, none⟩ = some (.pointer (some ⟨a, 0, none⟩)) := HU6.out.blk.cell (i := 0) rfl
      clear R6 hs6
      go_wp2_with fail
      refine (close_none W6 ρ6 a _ HU6.out.st i HNO.out).mono ?_
      rintro e W7 ⟨rfl, rfl⟩
      go_wp2
      go_ret
      have hmv := UMove.cls (S := S) k i r' HIK.out HRI.out HRO.out
      rw [HLO.out, HLC.out] at hmv
      exact ⟨_, ρ6, by simp, ⟨a, ko + 1, kc + 1, _, _, HU6.out⟩, hmv, SU6.out⟩

end Go.Proofs.Ytgejmgomliadmaa
