/- The store in memory: Alloc, the three ways. -/
import Derived.Test.YtgejmgomliadmaaStH
set_option linter.unusedVariables false
namespace Go.Proofs.Ytgejmgomliadmaa
open Go Go.RowKit

theorem modify_set {α : Type} {l : List α} {i : Nat} {x : α} (h : l[i]? = some x) (f : α → α) : l.modify i f = l.set i (f x) := by
  apply List.ext_getElem?
  intro j
  rw [List.getElem?_modify, List.getElem?_set]
  have hlt := (List.getElem?_eq_some_iff.1 h).1
  by_cases hij : i = j
  · subst hij
    obtain ⟨hlt, rfl⟩ := List.getElem?_eq_some_iff.1 h
    simp [hlt]
  · simp [hij]
theorem field_core {w : World} {ρ : Ghost} {a g c i : Nat} {s : PSt} {r r' : PReg} {vr vp vw : Value} {css : List (List Value)} (H : RepAt w ρ a s vr vp vw css) (hi : s.regs[i]? = some r) (hv : vr = .slice (some ⟨g, 0, none⟩) s.regs.length c)
    (k : Nat) (hk : k < 5) (v : Value) (hp : r'.pgs = r.pgs) (hc : r'.cls = r.cls) (hs : ∀ p q : Value, [Value.bool r.op, p, q, .int .i64 r.cur, .int .i64 r.fil].set k v = [.bool r'.op, p, q, .int .i64 r'.cur, .int .i64 r'.fil]) :
    RepV (w.setCell ⟨g, i * 5 + k, none⟩ v) ρ a { s with regs := s.regs.set i r' } vr := by
  have hlt : i < s.regs.length := (List.getElem?_eq_some_iff.1 hi).1
  have h5 := H.five
  obtain ⟨_, _, vrp, vrc, hv', _, _, hgt, hgl, hcsi, hOrp, hOrc, _⟩ := H.reg hi
  rw [hv] at hv'
  cases hv'
  obtain ⟨g', c', LR, hv', hgt', hbR, hR1, hR2, hR3, hR4⟩ := H.regs.opn (by omega)
  rw [hv] at hv'
  cases hv'
  have hne : a ≠ g := by rintro rfl; have := H.tag; rw [hgt] at this; cases this
  refine ⟨vp, vw, css.set i [.bool r'.op, vrp, vrc, .int .i64 r'.cur, .int .i64 r'.fil], H.blk.setCell_ne _ hne, H.tag, ?_, H.pages.set_ne _ (by rw [hgt]; simp), H.wait.set_ne _ (by rw [hgt]; simp), by simp [H.rows], ?_⟩
  · rw [hv]
    simp only [List.length_set]
    refine OwnSl.mk hgt (hbR.setCell _ _) hR1 hR2 (by simpa using hR3) ?_
    rw [List.take_set, hR4, flatten_set css h5 i k _ _ hcsi hk, hs]
  · intro j rj cs h1 h2
    simp only [List.getElem?_set] at h1
    rw [List.getElem?_set] at h2
    by_cases hij : i = j
    · subst hij
      rw [if_pos rfl, if_pos hlt] at h1
      rw [if_pos rfl, if_pos (by rw [H.rows]; exact hlt)] at h2
      simp at h1 h2
      subst h1; subst h2
      exact ⟨vrp, vrc, rfl, by rw [hp]; exact hOrp.set_ne _ (by rw [hgt]; simp), by rw [hc]; exact hOrc.set_ne _ (by rw [hgt]; simp)⟩
    · rw [if_neg hij] at h1 h2
      exact (H.row j rj cs h1 h2).set_ne hgt (by simp) (by simp)

theorem pages_own {W w3 : World} {ρ1 : Ghost} {vp : Value} {np : Nat} {data : List Int} : Step (· = (3, 0)) W ρ1 w3 ρ1 → OwnSl W ρ1 (3, 0) 75 16 vp np (ints data) → Below W.heap.size W w3 → OwnSl w3 ρ1 (3, 0) 75 16 vp np (ints data) := fun _ h hb => h.step (T := fun _ => False) ((Step.refl _ W ρ1).of_below hb) (fun h => h)

set_option maxRecDepth 100000 in
set_option maxHeartbeats 1000000 in
theorem alloc_room (w : World) (ρ : Ghost) (a : Nat) (s : PSt) (H0 : Rep w ρ a s) (hfr : Fresh w ρ) (i : Nat) (r : PReg) (hi : s.regs[i]? = some r) (hr : r.op = true) (words q f : Nat) (hq : r.cur = q) (hf : r.fil = f) (h1 : 1 ≤ words) (h16 : f + words ≤ 16) (hqb : q ≤ 1000000) (hfb : f ≤ 16) (t : Nat) (ht : t = q * 16 + f)
    (hT : TailOk { s with regs := setFil s.regs i ((f : Int) + words) } i t words { r with fil := (f : Int) + words }) :
    Calls Try.prog 15 #[.pointer (some ⟨a, 0, none⟩), .int .i64 i, .int .i64 words] w (AllocPost ρ a (finS { s with regs := setFil s.regs i ((f : Int) + words) } i t words) (t : Int) w) := by
    obtain ⟨vr, vp, vw, css, H⟩ := H0
    obtain ⟨g, c, vrp, vrc, hv, hn1, hn2, hgt, hgl, hcsi, hOrp, hOrc, x0, x1, x2, x3, x4, xf⟩ := H.reg hi
    have HF := Hd.mk (find_open w ρ a s vr vp vw css H i r hi hr g c hv)
    have HV1 := Hd.mk hv
    have HFR0 := Hd.mk hfr
    have HI := Hd.mk hi
    have HH := Hd.mk H
    have HT := Hd.mk hT
    rw [hq] at x3
    rw [hf] at x4
    have hq0 : (0 : Int) ≤ q := by omega
    have hfw : (f : Int) + words ≤ 16 := by omega
    have hw16 : words ≤ 16 := by omega
    have HQ := Hd.mk hq
    have HTT := Hd.mk ht
    clear ht
    have HFF := Hd.mk hf
    clear H hv hcsi hOrp hOrc x0 x1 x2 hT hfr hi hr hq hf hgt hgl
    go_enter Try.func15, Try.ntmps15
    go_wp2_with fail
    refine HF.out.mono ?_
    rintro e w' ⟨rfl, rfl⟩
    have e1 : IntKind.i64.wrap ((q : Int) * 16) = (q : Int) * 16 := IntWalk.i64_in _ (by omega)
    have e2 : IntKind.i64.wrap ((q : Int) * 16 + f) = (q : Int) * 16 + f := IntWalk.i64_in _ (by omega)
    go_wp2_with fail
    go_quiet (fail)
    have H1 := HH.out.step ((Step.refl (fun _ => False) w ρ).drewN nq) (fun _ _ h => h)
    have hS1 : Step STag w ρ (w.drewN nq) ρ := (Step.refl _ w ρ).drewN nq
    have hfr1 : Fresh (w.drewN nq) ρ := hS1.fresh HFR0.out
    clear e1 e2 HH x3 x4 xf
    generalize w.drewN nq = w1 at *
    obtain ⟨_, _, vrp', vrc', hv', _, _, hgt, hgl, hcsi, hOrp, hOrc, x0, x1, x2, x3, x4, xf⟩ := H1.reg HI.out
    obtain ⟨e1, e2⟩ : g = _ ∧ c = _ := by rw [HV1.out] at hv'; simp at hv'; exact ⟨hv'.1, hv'.2⟩
    subst e1; subst e2
    have HV0 := field_core (r' := { r with fil := (f : Int) + words }) H1 HI.out HV1.out 4 (by omega) (.int .i64 ((f : Int) + words)) rfl rfl (fun _ _ => rfl)
    rw [← modify_set HI.out (fun r => { r with fil := (f : Int) + words })] at HV0
    have HSTEP : Hd (Step STag w ρ (w1.setCell ⟨g, i * 5 + 4, none⟩ (.int .i64 ((f : Int) + words))) ρ) := ⟨hS1.setCell hgt (by simp [STag]) _⟩
    rw [HFF.out] at x4
    have hsl : (setFil s.regs i ((f : Int) + words)).length = s.regs.length := by simp [setFil]
    have HVR : Hd (vr = .slice (some ⟨g, 0, none⟩) (setFil s.regs i ((f : Int) + words)).length c) := ⟨by rw [hsl]; exact HV1.out⟩
    have HV : Hd (RepV _ ρ a { s with regs := setFil s.regs i ((f : Int) + words) } vr) := ⟨HV0⟩
    have HFR := Hd.mk (HSTEP.out.fresh HFR0.out)
    have xf4 := xf (i * 5 + 4)
    clear hv' hcsi hOrp hOrc x0 x1 x2 x3 xf HV0 hsl hS1 hfr1 H1
    go_wp2_with fail
    generalize hW : w1.setCell ⟨g, i * 5 + 4, none⟩ (.int .i64 ((f : Int) + words)) = W1 at *
    clear hW
    generalize hz : (q : Int) * 16 + (f : Int) = z at *
    obtain rfl : z = (t : Int) := by have := HTT.out; omega
    have htb : t ≤ 20000000 := by have := HTT.out; omega
    clear hz

    -- the tail
    obtain ⟨hTreg, hTfit, hTnp, hTrise, hTinb, hTcls, hTheld, hTw⟩ := HT.out
    obtain ⟨vp1, vw1, css1, H1⟩ := HV.out
    have hlt1 : i < ({ s with regs := setFil s.regs i ((f : Int) + words) } : PSt).regs.length := (List.getElem?_eq_some_iff.1 hTreg).1
    obtain ⟨_, _, vrp, vrc, hv', _, _, hgt, hgl, hcsi, hOrp, hOrc, _⟩ := H1.reg hTreg
    obtain ⟨g', c', LR, hv2, hgt', hbR, hR1, hR2, hR3, hR4⟩ := H1.regs.opn (by omega)
    rw [HVR.out] at hv' hv2
    obtain ⟨e1, e2⟩ : g = g' ∧ c = c' := by simp at hv2; exact ⟨hv2.1, hv2.2⟩
    subst e1; subst e2
    obtain ⟨e1, e2⟩ : g = _ ∧ c = _ := by simp at hv'; exact ⟨hv'.1, hv'.2⟩
    subst e1; subst e2
    have HRF : Hd (LR.take (({ s with regs := setFil s.regs i ((f : Int) + words) } : PSt).regs.length * 5) = css1.flatten ∧ ({ s with regs := setFil s.regs i ((f : Int) + words) } : PSt).regs.length ≤ c ∧ c ≤ maxLen ∧ c * 5 ≤ LR.length) := ⟨hR4, hR1, hR2, hR3⟩
    have HLR : Hd (LR[i * 5 + 2]? = some vrc) := ⟨by
      have h := flatten_get css1 H1.five i 2 _ hcsi (by omega)
      rw [← hR4, List.getElem?_take, if_pos (by omega)] at h
      exact h⟩
    have HOC := Hd.mk hOrc
    have HOP := Hd.mk hOrp
    have HG := Hd.mk hgt
    have HBR := Hd.mk hbR
    have HH := Hd.mk H1
    have HCS := Hd.mk hcsi
    have HRISE := Hd.mk hTrise
    have HINB := Hd.mk hTinb
    have HREG := Hd.mk hTreg
    clear hTreg hTrise hTinb hgt' hv2 hv' hR1 hR2 hR3 hR4 hOrc hOrp hgt hbR H1 hcsi
    refine (empty_any W1 ρ a vp1 ({ s with regs := setFil s.regs i ((f : Int) + words) } : PSt).np ({ s with regs := setFil s.regs i ((f : Int) + words) } : PSt).data _ HH.out.blk rfl HH.out.tag HH.out.pages t words hTfit (by omega)).mono ?_
    rintro e w2 ⟨rfl, hO2, hS2⟩
    have hbR2 := hS2.blk' HBR.out HG.out (by simp)
    have hOC2 := HOC.out.step hS2 (by simp)
    have HS2 := Hd.mk hS2
    have HO2 := Hd.mk hO2
    obtain ⟨Ac, cc, rfl, hcc1, hcc2⟩ := hOC2.form
    have hc2 := hbR2.cell HLR.out
    have HOC2 := Hd.mk hOC2
    clear hS2 hO2 hOC2
    go_wp2_with fail
    refine (bsf_any 37 InB cmp1 cf1 w2 ρ (6, i) Ac cc ({ r with fil := (f : Int) + words } : PReg).cls HOC2.out t (Nat.le_trans hTcls (by decide)) HRISE.out (by unfold InB; omega) HINB.out).mono ?_
    rintro e w3 ⟨k, b, rfl, hpl, _, hb3⟩
    have hS3 : Step (· = (3, 0)) w2 ρ w3 ρ := (Step.refl _ _ _).of_below hb3
    have HS3 := Hd.mk (HS2.out.trans hS3)
    have hbR3 := hS3.blk' hbR2 HG.out (by simp)
    have hOC3 := HOC2.out.step hS3 (by simp)
    have hO3 := pages_own hS3 HO2.out hb3
    have hc3 := hbR3.cell HLR.out
    have hkl := hpl.le
    rw [ats_length] at hkl
    have HOC3 := Hd.mk hOC3
    have HO3 := Hd.mk hO3
    have HPL := Hd.mk hpl
    have hfr3 := HS3.out.fresh HFR.out
    clear hb3 hS3 hOC3 hO3 hpl hc2 hbR2
    go_wp2_with fail
    refine (ins_any _ ρ (6, i) Ac ({ r with fil := (f : Int) + words } : PReg).cls.length cc k w3.heap.size (pairs ({ r with fil := (f : Int) + words } : PReg).cls) [.int .i64 t, .int .i64 words] (HOC3.out.alloc _) (Nat.le_trans hTcls (by decide)) (Blk.new w3 _ 63) (by rw [hfr3 _ (Nat.le_refl _)]; simp) rfl (by simp [Value.oneCell']) hkl (by
      intro u hu
      simp only [pairs, List.mem_flatMap] at hu
      obtain ⟨x, _, hx⟩ := hu
      simp at hx
      rcases hx with rfl | rfl <;> rfl)).mono ?_
    rintro e w4 ⟨vq, ρ4, rfl, hO4, hS4⟩
    have hS4' : Step (fun t => t = (3, 0) ∨ t = (6, i)) W1 ρ w4 ρ4 := ((HS3.out.alloc _).mono (by intro t h; exact .inl h)).trans (hS4.mono (by intro t h; exact .inr h))
    have hbR4 := hS4.blk' (hbR3.alloc _) HG.out (by simp)
    have hbA4 := hS4'.blk' HH.out.blk HH.out.tag (by simp)
    have htA4 := hS4'.tag HH.out.blk.lt HH.out.tag
    have htR4 := hS4'.tag HBR.out.lt HG.out
    obtain ⟨A4, c4, rfl, _, _⟩ := hO4.form
    have hPG4 := (HO3.out.alloc (.cells [Value.int .i64 t, .int .i64 words].toArray 63)).step hS4 (by simp)
    have y1 := hbA4.cell (i := 4) rfl
    have y1f := hbA4.free 4
    have y2 := hbR4.cell HLR.out
    have y2f := hbR4.free (i * 5 + 2)
    have hne : a ≠ g := by rintro rfl; rw [htA4] at htR4; cases htR4
    have HO4 := Hd.mk hO4
    have HS4 := Hd.mk hS4'
    have HPG4 := Hd.mk hPG4
    have HB4 := Hd.mk hbA4
    have HBR4 := Hd.mk hbR4
    obtain ⟨hTh1, hTh2⟩ := hTheld
    clear hO4 hS4 hS4' hPG4 hfr3 hbA4 hbR4 hc3 hbR3
    go_wp2
    go_ret2
    have hcls : (({ r with fil := (f : Int) + words } : PReg).cls.length + 1) = (insCls ({ r with fil := (f : Int) + words } : PReg).cls ((t : Int), (words : Int))).length ∧ (pairs ({ r with fil := (f : Int) + words } : PReg).cls).take (k * 2) ++ [Value.int .i64 t, .int .i64 words] ++ (pairs ({ r with fil := (f : Int) + words } : PReg).cls).drop (k * 2) = pairs (insCls ({ r with fil := (f : Int) + words } : PReg).cls ((t : Int), (words : Int))) := ins_pairs (placeOf_eq HPL.out) hkl
    have hOcl := HO4.out
    rw [hcls.1, hcls.2] at hOcl
    refine ⟨ρ4, by rfl, ?_, (HSTEP.out.trans (((HS4.out.mono (by rintro t (rfl | rfl) <;> simp [STag])).setCell htR4 (by simp [STag]) _).setCell htA4 (by simp [STag]) _))⟩
    have hfin := tail_core HH.out HREG.out HVR.out HRF.out HCS.out HOP.out _ HS4.out (fun t h => h) (zeroAt ({ s with regs := setFil s.regs i ((f : Int) + words) } : PSt).data t words) (({ s with regs := setFil s.regs i ((f : Int) + words) } : PSt).held + words) _ HB4.out htA4 HBR4.out htR4 HPG4.out hOcl
    have hcl1 : r.cls.length + 1 = _ := hcls.1
    rw [hcl1]
    rw [finS, modify_set HREG.out]
    exact ⟨_, hfin⟩

set_option maxRecDepth 100000 in
set_option maxHeartbeats 1000000 in
theorem alloc_large (w : World) (ρ : Ghost) (a : Nat) (s : PSt) (H0 : Rep w ρ a s) (hFi : Fine s) (hfr : Fresh w ρ) (i : Nat) (r r1 : PReg) (hi : s.regs[i]? = some r) (hr : r.op = true) (words many : Nat) (hm : many = (words + 15) / 16) (h1 : 17 ≤ words) (h16 : words ≤ 4097) (t : Nat) (ht : (t : Int) = (takeS s i many).1 * 16) (htf : 0 ≤ (takeS s i many).1 ∧ (takeS s i many).1 ≤ 1000000)
    (hT : TailOk (takeS s i many).2 i t words r1) (hrl : (takeS s i many).2.regs.length = s.regs.length) :
    Calls Try.prog 15 #[.pointer (some ⟨a, 0, none⟩), .int .i64 i, .int .i64 words] w (AllocPost ρ a (finS (takeS s i many).2 i t words) (t : Int) w) := by
    obtain ⟨vr, vp, vw, css, H⟩ := H0
    obtain ⟨g, c, vrp, vrc, hv, hn1, hn2, _⟩ := H.reg hi
    have HF := Hd.mk (find_open w ρ a s vr vp vw css H i r hi hr g c hv)
    have HTK := Hd.mk (take_any w ρ a s vr vp vw css H hFi i r hi g c hv many (by omega) (by omega))
    have HVR : Hd (vr = .slice (some ⟨g, 0, none⟩) (takeS s i many).2.regs.length c) := ⟨by rw [hrl]; exact hv⟩
    have HFR0 := Hd.mk hfr
    have HT := Hd.mk hT
    have HTT := Hd.mk ht
    have HM := Hd.mk hm
    obtain ⟨hf1, hf2⟩ := htf
    clear H hv hT hfr hi hr ht hrl hm hFi
    go_enter Try.func15, Try.ntmps15
    go_wp2_with fail
    refine HF.out.mono ?_
    rintro e w' ⟨rfl, rfl⟩
    go_wp2_with fail
    rw [show ((words : Int) + 16 - 1) / 16 = (many : Int) from by have := HM.out; omega]
    refine HTK.out.mono ?_
    rintro e W1 ⟨ρ1, rfl, hV, hSt⟩
    have HV := Hd.mk hV
    have HSTEP := Hd.mk hSt
    have HFR := Hd.mk (hSt.fresh HFR0.out)
    clear hV hSt HTK
    generalize (takeS s i many).1 = z at *
    generalize (takeS s i many).2 = s1 at *
    go_wp2_with fail
    rw [← HTT.out]
    have htb : t ≤ 20000000 := by have := HTT.out; omega

    -- the tail
    obtain ⟨hTreg, hTfit, hTnp, hTrise, hTinb, hTcls, hTheld, hTw⟩ := HT.out
    obtain ⟨vp1, vw1, css1, H1⟩ := HV.out
    have hlt1 : i < s1.regs.length := (List.getElem?_eq_some_iff.1 hTreg).1
    obtain ⟨_, _, vrp, vrc, hv', _, _, hgt, hgl, hcsi, hOrp, hOrc, _⟩ := H1.reg hTreg
    obtain ⟨g', c', LR, hv2, hgt', hbR, hR1, hR2, hR3, hR4⟩ := H1.regs.opn (by omega)
    rw [HVR.out] at hv' hv2
    obtain ⟨e1, e2⟩ : g = g' ∧ c = c' := by simp at hv2; exact ⟨hv2.1, hv2.2⟩
    subst e1; subst e2
    obtain ⟨e1, e2⟩ : g = _ ∧ c = _ := by simp at hv'; exact ⟨hv'.1, hv'.2⟩
    subst e1; subst e2
    have HRF : Hd (LR.take (s1.regs.length * 5) = css1.flatten ∧ s1.regs.length ≤ c ∧ c ≤ maxLen ∧ c * 5 ≤ LR.length) := ⟨hR4, hR1, hR2, hR3⟩
    have HLR : Hd (LR[i * 5 + 2]? = some vrc) := ⟨by
      have h := flatten_get css1 H1.five i 2 _ hcsi (by omega)
      rw [← hR4, List.getElem?_take, if_pos (by omega)] at h
      exact h⟩
    have HOC := Hd.mk hOrc
    have HOP := Hd.mk hOrp
    have HG := Hd.mk hgt
    have HBR := Hd.mk hbR
    have HH := Hd.mk H1
    have HCS := Hd.mk hcsi
    have HRISE := Hd.mk hTrise
    have HINB := Hd.mk hTinb
    have HREG := Hd.mk hTreg
    clear hTreg hTrise hTinb hgt' hv2 hv' hR1 hR2 hR3 hR4 hOrc hOrp hgt hbR H1 hcsi
    refine (empty_any W1 ρ1 a vp1 s1.np s1.data _ HH.out.blk rfl HH.out.tag HH.out.pages t words hTfit (by omega)).mono ?_
    rintro e w2 ⟨rfl, hO2, hS2⟩
    have hbR2 := hS2.blk' HBR.out HG.out (by simp)
    have hOC2 := HOC.out.step hS2 (by simp)
    have HS2 := Hd.mk hS2
    have HO2 := Hd.mk hO2
    obtain ⟨Ac, cc, rfl, hcc1, hcc2⟩ := hOC2.form
    have hc2 := hbR2.cell HLR.out
    have HOC2 := Hd.mk hOC2
    clear hS2 hO2 hOC2
    go_wp2_with fail
    refine (bsf_any 37 InB cmp1 cf1 w2 ρ1 (6, i) Ac cc r1.cls HOC2.out t (Nat.le_trans hTcls (by decide)) HRISE.out (by unfold InB; omega) HINB.out).mono ?_
    rintro e w3 ⟨k, b, rfl, hpl, _, hb3⟩
    have hS3 : Step (· = (3, 0)) w2 ρ1 w3 ρ1 := (Step.refl _ _ _).of_below hb3
    have HS3 := Hd.mk (HS2.out.trans hS3)
    have hbR3 := hS3.blk' hbR2 HG.out (by simp)
    have hOC3 := HOC2.out.step hS3 (by simp)
    have hO3 := pages_own hS3 HO2.out hb3
    have hc3 := hbR3.cell HLR.out
    have hkl := hpl.le
    rw [ats_length] at hkl
    have HOC3 := Hd.mk hOC3
    have HO3 := Hd.mk hO3
    have HPL := Hd.mk hpl
    have hfr3 := HS3.out.fresh HFR.out
    clear hb3 hS3 hOC3 hO3 hpl hc2 hbR2
    go_wp2_with fail
    refine (ins_any _ ρ1 (6, i) Ac r1.cls.length cc k w3.heap.size (pairs r1.cls) [.int .i64 t, .int .i64 words] (HOC3.out.alloc _) (Nat.le_trans hTcls (by decide)) (Blk.new w3 _ 63) (by rw [hfr3 _ (Nat.le_refl _)]; simp) rfl (by simp [Value.oneCell']) hkl (by
      intro u hu
      simp only [pairs, List.mem_flatMap] at hu
      obtain ⟨x, _, hx⟩ := hu
      simp at hx
      rcases hx with rfl | rfl <;> rfl)).mono ?_
    rintro e w4 ⟨vq, ρ4, rfl, hO4, hS4⟩
    have hS4' : Step (fun t => t = (3, 0) ∨ t = (6, i)) W1 ρ1 w4 ρ4 := ((HS3.out.alloc _).mono (by intro t h; exact .inl h)).trans (hS4.mono (by intro t h; exact .inr h))
    have hbR4 := hS4.blk' (hbR3.alloc _) HG.out (by simp)
    have hbA4 := hS4'.blk' HH.out.blk HH.out.tag (by simp)
    have htA4 := hS4'.tag HH.out.blk.lt HH.out.tag
    have htR4 := hS4'.tag HBR.out.lt HG.out
    obtain ⟨A4, c4, rfl, _, _⟩ := hO4.form
    have hPG4 := (HO3.out.alloc (.cells [Value.int .i64 t, .int .i64 words].toArray 63)).step hS4 (by simp)
    have y1 := hbA4.cell (i := 4) rfl
    have y1f := hbA4.free 4
    have y2 := hbR4.cell HLR.out
    have y2f := hbR4.free (i * 5 + 2)
    have hne : a ≠ g := by rintro rfl; rw [htA4] at htR4; cases htR4
    have HO4 := Hd.mk hO4
    have HS4 := Hd.mk hS4'
    have HPG4 := Hd.mk hPG4
    have HB4 := Hd.mk hbA4
    have HBR4 := Hd.mk hbR4
    obtain ⟨hTh1, hTh2⟩ := hTheld
    clear hO4 hS4 hS4' hPG4 hfr3 hbA4 hbR4 hc3 hbR3
    go_wp2
    go_ret2
    have hcls : (r1.cls.length + 1) = (insCls r1.cls ((t : Int), (words : Int))).length ∧ (pairs r1.cls).take (k * 2) ++ [Value.int .i64 t, .int .i64 words] ++ (pairs r1.cls).drop (k * 2) = pairs (insCls r1.cls ((t : Int), (words : Int))) := ins_pairs (placeOf_eq HPL.out) hkl
    have hOcl := HO4.out
    rw [hcls.1, hcls.2] at hOcl
    refine ⟨ρ4, by rfl, ?_, (HSTEP.out.trans (((HS4.out.mono (by rintro t (rfl | rfl) <;> simp [STag])).setCell htR4 (by simp [STag]) _).setCell htA4 (by simp [STag]) _))⟩
    have hfin := tail_core HH.out HREG.out HVR.out HRF.out HCS.out HOP.out _ HS4.out (fun t h => h) (zeroAt s1.data t words) (s1.held + words) _ HB4.out htA4 HBR4.out htR4 HPG4.out hOcl
    have hcl1 : r1.cls.length + 1 = _ := hcls.1
    rw [hcl1]
    rw [finS, modify_set HREG.out]
    exact ⟨_, hfin⟩

set_option maxRecDepth 100000 in
set_option maxHeartbeats 1000000 in
theorem alloc_new1 (w : World) (ρ : Ghost) (a : Nat) (s : PSt) (H0 : Rep w ρ a s) (hFi : Fine s) (hfr : Fresh w ρ) (i : Nat) (r r1 : PReg) (hi : s.regs[i]? = some r) (hr : r.op = true) (words : Nat) (h1 : 1 ≤ words) (h16 : words ≤ 16) (hc : r.cur < 0) (t : Nat) (ht : (t : Int) = (takeS s i 1).1 * 16) (htf : 0 ≤ (takeS s i 1).1 ∧ (takeS s i 1).1 ≤ 1000000) (hi1 : (takeS s i 1).2.regs[i]? = some r1)
    (hT : TailOk { (takeS s i 1).2 with regs := setCur (takeS s i 1).2.regs i (takeS s i 1).1 words } i t words { r1 with cur := (takeS s i 1).1, fil := words }) (hrl : (takeS s i 1).2.regs.length = s.regs.length) :
    Calls Try.prog 15 #[.pointer (some ⟨a, 0, none⟩), .int .i64 i, .int .i64 words] w (AllocPost ρ a (finS { (takeS s i 1).2 with regs := setCur (takeS s i 1).2.regs i (takeS s i 1).1 words } i t words) (t : Int) w) := by
    obtain ⟨vr, vp, vw, css, H⟩ := H0
    obtain ⟨g, c, vrp, vrc, hv, hn1, hn2, _, _, _, _, _, _, _, _, x3, x4, _⟩ := H.reg hi
    have HF := Hd.mk (find_open w ρ a s vr vp vw css H i r hi hr g c hv)
    have HTK := Hd.mk (take_any w ρ a s vr vp vw css H hFi i r hi g c hv 1 (by omega) (by omega))
    have HVR0 : Hd (vr = .slice (some ⟨g, 0, none⟩) (takeS s i 1).2.regs.length c) := ⟨by rw [hrl]; exact hv⟩
    have HFR0 := Hd.mk hfr
    have HT := Hd.mk hT
    have HTT := Hd.mk ht
    have HI1 := Hd.mk hi1
    obtain ⟨hf1, hf2⟩ := htf
    have hc' := hc
    generalize r.cur = q at *
    clear H hv hT hfr hi hr ht hrl hFi hi1
    go_enter Try.func15, Try.ntmps15
    go_wp2_with fail
    refine HF.out.mono ?_
    rintro e w' ⟨rfl, rfl⟩
    go_wp2_with fail
    refine HTK.out.mono ?_
    rintro e w1 ⟨ρ1, rfl, ⟨vp0, vw0, css0, H1⟩, hSt⟩
    have HST := Hd.mk hSt
    clear hSt HTK x3 x4
    generalize (takeS s i 1).1 = z at *
    generalize (takeS s i 1).2 = s1 at *
    have hlt1 : i < s1.regs.length := (List.getElem?_eq_some_iff.1 HI1.out).1
    obtain ⟨_, _, _, _, hv', _, _, hgt, hgl, _, _, _, _, _, _, y3, y4, yf⟩ := H1.reg HI1.out
    obtain ⟨e1, e2⟩ : g = _ ∧ c = _ := by rw [HVR0.out] at hv'; simp at hv'; exact ⟨hv'.1, hv'.2⟩
    subst e1; subst e2
    have f0 := field_core (r' := { r1 with cur := z }) H1 HI1.out HVR0.out 3 (by omega) (.int .i64 z) rfl rfl (fun _ _ => rfl)
    obtain ⟨vp2, vw2, css2, H2⟩ := f0
    have f1 := field_core (i := i) (r := { r1 with cur := z }) (r' := { r1 with cur := z, fil := words }) H2 (List.getElem?_set_self hlt1) (by simp only [List.length_set]; exact HVR0.out) 4 (by omega) (.int .i64 words) rfl rfl (fun _ _ => rfl)
    simp only [List.set_set] at f1
    rw [← modify_set HI1.out (fun r => { r with cur := z, fil := words })] at f1
    have HV : Hd (RepV _ ρ1 a { s1 with regs := setCur s1.regs i z words } vr) := ⟨f1⟩
    have HVR : Hd (vr = .slice (some ⟨g, 0, none⟩) (setCur s1.regs i z words).length c) := ⟨by simp only [setCur, List.length_modify]; exact HVR0.out⟩
    have HSTEP : Hd (Step STag w ρ ((w1.setCell ⟨g, i * 5 + 3, none⟩ (.int .i64 z)).setCell ⟨g, i * 5 + 4, none⟩ (.int .i64 words)) ρ1) := ⟨(HST.out.setCell hgt (by simp [STag]) _).setCell hgt (by simp [STag]) _⟩
    have HFR := Hd.mk (HSTEP.out.fresh HFR0.out)
    have yf3 := yf (i * 5 + 3)
    have yf4 := yf (i * 5 + 4)
    clear hv' f1 H2 H1 yf
    go_wp2_with fail
    generalize hW : (w1.setCell ⟨g, i * 5 + 3, none⟩ (.int .i64 z)).setCell ⟨g, i * 5 + 4, none⟩ (.int .i64 words) = W1 at *
    clear hW
    rw [← HTT.out]
    have htb : t ≤ 20000000 := by have := HTT.out; omega

    -- the tail
    obtain ⟨hTreg, hTfit, hTnp, hTrise, hTinb, hTcls, hTheld, hTw⟩ := HT.out
    obtain ⟨vp1, vw1, css1, H1⟩ := HV.out
    have hlt1 : i < ({ s1 with regs := setCur s1.regs i z words } : PSt).regs.length := (List.getElem?_eq_some_iff.1 hTreg).1
    obtain ⟨_, _, vrp, vrc, hv', _, _, hgt, hgl, hcsi, hOrp, hOrc, _⟩ := H1.reg hTreg
    obtain ⟨g', c', LR, hv2, hgt', hbR, hR1, hR2, hR3, hR4⟩ := H1.regs.opn (by omega)
    rw [HVR.out] at hv' hv2
    obtain ⟨e1, e2⟩ : g = g' ∧ c = c' := by simp at hv2; exact ⟨hv2.1, hv2.2⟩
    subst e1; subst e2
    obtain ⟨e1, e2⟩ : g = _ ∧ c = _ := by simp at hv'; exact ⟨hv'.1, hv'.2⟩
    subst e1; subst e2
    have HRF : Hd (LR.take (({ s1 with regs := setCur s1.regs i z words } : PSt).regs.length * 5) = css1.flatten ∧ ({ s1 with regs := setCur s1.regs i z words } : PSt).regs.length ≤ c ∧ c ≤ maxLen ∧ c * 5 ≤ LR.length) := ⟨hR4, hR1, hR2, hR3⟩
    have HLR : Hd (LR[i * 5 + 2]? = some vrc) := ⟨by
      have h := flatten_get css1 H1.five i 2 _ hcsi (by omega)
      rw [← hR4, List.getElem?_take, if_pos (by omega)] at h
      exact h⟩
    have HOC := Hd.mk hOrc
    have HOP := Hd.mk hOrp
    have HG := Hd.mk hgt
    have HBR := Hd.mk hbR
    have HH := Hd.mk H1
    have HCS := Hd.mk hcsi
    have HRISE := Hd.mk hTrise
    have HINB := Hd.mk hTinb
    have HREG := Hd.mk hTreg
    clear hTreg hTrise hTinb hgt' hv2 hv' hR1 hR2 hR3 hR4 hOrc hOrp hgt hbR H1 hcsi
    refine (empty_any W1 ρ1 a vp1 ({ s1 with regs := setCur s1.regs i z words } : PSt).np ({ s1 with regs := setCur s1.regs i z words } : PSt).data _ HH.out.blk rfl HH.out.tag HH.out.pages t words hTfit (by omega)).mono ?_
    rintro e w2 ⟨rfl, hO2, hS2⟩
    have hbR2 := hS2.blk' HBR.out HG.out (by simp)
    have hOC2 := HOC.out.step hS2 (by simp)
    have HS2 := Hd.mk hS2
    have HO2 := Hd.mk hO2
    obtain ⟨Ac, cc, rfl, hcc1, hcc2⟩ := hOC2.form
    have hc2 := hbR2.cell HLR.out
    have HOC2 := Hd.mk hOC2
    clear hS2 hO2 hOC2
    go_wp2_with fail
    refine (bsf_any 37 InB cmp1 cf1 w2 ρ1 (6, i) Ac cc ({ r1 with cur := z, fil := words } : PReg).cls HOC2.out t (Nat.le_trans hTcls (by decide)) HRISE.out (by unfold InB; omega) HINB.out).mono ?_
    rintro e w3 ⟨k, b, rfl, hpl, _, hb3⟩
    have hS3 : Step (· = (3, 0)) w2 ρ1 w3 ρ1 := (Step.refl _ _ _).of_below hb3
    have HS3 := Hd.mk (HS2.out.trans hS3)
    have hbR3 := hS3.blk' hbR2 HG.out (by simp)
    have hOC3 := HOC2.out.step hS3 (by simp)
    have hO3 := pages_own hS3 HO2.out hb3
    have hc3 := hbR3.cell HLR.out
    have hkl := hpl.le
    rw [ats_length] at hkl
    have HOC3 := Hd.mk hOC3
    have HO3 := Hd.mk hO3
    have HPL := Hd.mk hpl
    have hfr3 := HS3.out.fresh HFR.out
    clear hb3 hS3 hOC3 hO3 hpl hc2 hbR2
    go_wp2_with fail
    refine (ins_any _ ρ1 (6, i) Ac ({ r1 with cur := z, fil := words } : PReg).cls.length cc k w3.heap.size (pairs ({ r1 with cur := z, fil := words } : PReg).cls) [.int .i64 t, .int .i64 words] (HOC3.out.alloc _) (Nat.le_trans hTcls (by decide)) (Blk.new w3 _ 63) (by rw [hfr3 _ (Nat.le_refl _)]; simp) rfl (by simp [Value.oneCell']) hkl (by
      intro u hu
      simp only [pairs, List.mem_flatMap] at hu
      obtain ⟨x, _, hx⟩ := hu
      simp at hx
      rcases hx with rfl | rfl <;> rfl)).mono ?_
    rintro e w4 ⟨vq, ρ4, rfl, hO4, hS4⟩
    have hS4' : Step (fun t => t = (3, 0) ∨ t = (6, i)) W1 ρ1 w4 ρ4 := ((HS3.out.alloc _).mono (by intro t h; exact .inl h)).trans (hS4.mono (by intro t h; exact .inr h))
    have hbR4 := hS4.blk' (hbR3.alloc _) HG.out (by simp)
    have hbA4 := hS4'.blk' HH.out.blk HH.out.tag (by simp)
    have htA4 := hS4'.tag HH.out.blk.lt HH.out.tag
    have htR4 := hS4'.tag HBR.out.lt HG.out
    obtain ⟨A4, c4, rfl, _, _⟩ := hO4.form
    have hPG4 := (HO3.out.alloc (.cells [Value.int .i64 t, .int .i64 words].toArray 63)).step hS4 (by simp)
    have y1 := hbA4.cell (i := 4) rfl
    have y1f := hbA4.free 4
    have y2 := hbR4.cell HLR.out
    have y2f := hbR4.free (i * 5 + 2)
    have hne : a ≠ g := by rintro rfl; rw [htA4] at htR4; cases htR4
    have HO4 := Hd.mk hO4
    have HS4 := Hd.mk hS4'
    have HPG4 := Hd.mk hPG4
    have HB4 := Hd.mk hbA4
    have HBR4 := Hd.mk hbR4
    obtain ⟨hTh1, hTh2⟩ := hTheld
    clear hO4 hS4 hS4' hPG4 hfr3 hbA4 hbR4 hc3 hbR3
    go_wp2
    go_ret2
    have hcls : (({ r1 with cur := z, fil := words } : PReg).cls.length + 1) = (insCls ({ r1 with cur := z, fil := words } : PReg).cls ((t : Int), (words : Int))).length ∧ (pairs ({ r1 with cur := z, fil := words } : PReg).cls).take (k * 2) ++ [Value.int .i64 t, .int .i64 words] ++ (pairs ({ r1 with cur := z, fil := words } : PReg).cls).drop (k * 2) = pairs (insCls ({ r1 with cur := z, fil := words } : PReg).cls ((t : Int), (words : Int))) := ins_pairs (placeOf_eq HPL.out) hkl
    have hOcl := HO4.out
    rw [hcls.1, hcls.2] at hOcl
    refine ⟨ρ4, by rfl, ?_, (HSTEP.out.trans (((HS4.out.mono (by rintro t (rfl | rfl) <;> simp [STag])).setCell htR4 (by simp [STag]) _).setCell htA4 (by simp [STag]) _))⟩
    have hfin := tail_core HH.out HREG.out HVR.out HRF.out HCS.out HOP.out _ HS4.out (fun t h => h) (zeroAt ({ s1 with regs := setCur s1.regs i z words } : PSt).data t words) (({ s1 with regs := setCur s1.regs i z words } : PSt).held + words) _ HB4.out htA4 HBR4.out htR4 HPG4.out hOcl
    have hcl1 : r1.cls.length + 1 = _ := hcls.1
    rw [hcl1]
    rw [finS, modify_set HREG.out]
    exact ⟨_, hfin⟩

set_option maxRecDepth 100000 in
set_option maxHeartbeats 1000000 in
theorem alloc_new2 (w : World) (ρ : Ghost) (a : Nat) (s : PSt) (H0 : Rep w ρ a s) (hFi : Fine s) (hfr : Fresh w ρ) (i : Nat) (r r1 : PReg) (hi : s.regs[i]? = some r) (hr : r.op = true) (words : Nat) (h1 : 1 ≤ words) (h16 : words ≤ 16) (q f : Nat) (hc : r.cur = q) (hf : r.fil = f) (hff : 16 < f + words) (hfb : f ≤ 16) (t : Nat) (ht : (t : Int) = (takeS s i 1).1 * 16) (htf : 0 ≤ (takeS s i 1).1 ∧ (takeS s i 1).1 ≤ 1000000) (hi1 : (takeS s i 1).2.regs[i]? = some r1)
    (hT : TailOk { (takeS s i 1).2 with regs := setCur (takeS s i 1).2.regs i (takeS s i 1).1 words } i t words { r1 with cur := (takeS s i 1).1, fil := words }) (hrl : (takeS s i 1).2.regs.length = s.regs.length) :
    Calls Try.prog 15 #[.pointer (some ⟨a, 0, none⟩), .int .i64 i, .int .i64 words] w (AllocPost ρ a (finS { (takeS s i 1).2 with regs := setCur (takeS s i 1).2.regs i (takeS s i 1).1 words } i t words) (t : Int) w) := by
    obtain ⟨vr, vp, vw, css, H⟩ := H0
    obtain ⟨g, c, vrp, vrc, hv, hn1, hn2, _, _, _, _, _, _, _, _, x3, x4, _⟩ := H.reg hi
    have HF := Hd.mk (find_open w ρ a s vr vp vw css H i r hi hr g c hv)
    have HTK := Hd.mk (take_any w ρ a s vr vp vw css H hFi i r hi g c hv 1 (by omega) (by omega))
    have HVR0 : Hd (vr = .slice (some ⟨g, 0, none⟩) (takeS s i 1).2.regs.length c) := ⟨by rw [hrl]; exact hv⟩
    have HFR0 := Hd.mk hfr
    have HT := Hd.mk hT
    have HTT := Hd.mk ht
    have HI1 := Hd.mk hi1
    obtain ⟨hf1, hf2⟩ := htf
    rw [hc] at x3
    rw [hf] at x4
    have hff' : (16 : Int) < (f : Int) + words := by omega
    have hc0 : (0 : Int) ≤ q := by omega
    clear hc hf
    clear H hv hT hfr hi hr ht hrl hFi hi1
    go_enter Try.func15, Try.ntmps15
    go_wp2_with fail
    refine HF.out.mono ?_
    rintro e w' ⟨rfl, rfl⟩
    go_wp2_with fail
    refine HTK.out.mono ?_
    rintro e w1 ⟨ρ1, rfl, ⟨vp0, vw0, css0, H1⟩, hSt⟩
    have HST := Hd.mk hSt
    clear hSt HTK x3 x4
    generalize (takeS s i 1).1 = z at *
    generalize (takeS s i 1).2 = s1 at *
    have hlt1 : i < s1.regs.length := (List.getElem?_eq_some_iff.1 HI1.out).1
    obtain ⟨_, _, _, _, hv', _, _, hgt, hgl, _, _, _, _, _, _, y3, y4, yf⟩ := H1.reg HI1.out
    obtain ⟨e1, e2⟩ : g = _ ∧ c = _ := by rw [HVR0.out] at hv'; simp at hv'; exact ⟨hv'.1, hv'.2⟩
    subst e1; subst e2
    have f0 := field_core (r' := { r1 with cur := z }) H1 HI1.out HVR0.out 3 (by omega) (.int .i64 z) rfl rfl (fun _ _ => rfl)
    obtain ⟨vp2, vw2, css2, H2⟩ := f0
    have f1 := field_core (i := i) (r := { r1 with cur := z }) (r' := { r1 with cur := z, fil := words }) H2 (List.getElem?_set_self hlt1) (by simp only [List.length_set]; exact HVR0.out) 4 (by omega) (.int .i64 words) rfl rfl (fun _ _ => rfl)
    simp only [List.set_set] at f1
    rw [← modify_set HI1.out (fun r => { r with cur := z, fil := words })] at f1
    have HV : Hd (RepV _ ρ1 a { s1 with regs := setCur s1.regs i z words } vr) := ⟨f1⟩
    have HVR : Hd (vr = .slice (some ⟨g, 0, none⟩) (setCur s1.regs i z words).length c) := ⟨by simp only [setCur, List.length_modify]; exact HVR0.out⟩
    have HSTEP : Hd (Step STag w ρ ((w1.setCell ⟨g, i * 5 + 3, none⟩ (.int .i64 z)).setCell ⟨g, i * 5 + 4, none⟩ (.int .i64 words)) ρ1) := ⟨(HST.out.setCell hgt (by simp [STag]) _).setCell hgt (by simp [STag]) _⟩
    have HFR := Hd.mk (HSTEP.out.fresh HFR0.out)
    have yf3 := yf (i * 5 + 3)
    have yf4 := yf (i * 5 + 4)
    clear hv' f1 H2 H1 yf
    go_wp2_with fail
    generalize hW : (w1.setCell ⟨g, i * 5 + 3, none⟩ (.int .i64 z)).setCell ⟨g, i * 5 + 4, none⟩ (.int .i64 words) = W1 at *
    clear hW
    rw [← HTT.out]
    have htb : t ≤ 20000000 := by have := HTT.out; omega

    -- the tail
    obtain ⟨hTreg, hTfit, hTnp, hTrise, hTinb, hTcls, hTheld, hTw⟩ := HT.out
    obtain ⟨vp1, vw1, css1, H1⟩ := HV.out
    have hlt1 : i < ({ s1 with regs := setCur s1.regs i z words } : PSt).regs.length := (List.getElem?_eq_some_iff.1 hTreg).1
    obtain ⟨_, _, vrp, vrc, hv', _, _, hgt, hgl, hcsi, hOrp, hOrc, _⟩ := H1.reg hTreg
    obtain ⟨g', c', LR, hv2, hgt', hbR, hR1, hR2, hR3, hR4⟩ := H1.regs.opn (by omega)
    rw [HVR.out] at hv' hv2
    obtain ⟨e1, e2⟩ : g = g' ∧ c = c' := by simp at hv2; exact ⟨hv2.1, hv2.2⟩
    subst e1; subst e2
    obtain ⟨e1, e2⟩ : g = _ ∧ c = _ := by simp at hv'; exact ⟨hv'.1, hv'.2⟩
    subst e1; subst e2
    have HRF : Hd (LR.take (({ s1 with regs := setCur s1.regs i z words } : PSt).regs.length * 5) = css1.flatten ∧ ({ s1 with regs := setCur s1.regs i z words } : PSt).regs.length ≤ c ∧ c ≤ maxLen ∧ c * 5 ≤ LR.length) := ⟨hR4, hR1, hR2, hR3⟩
    have HLR : Hd (LR[i * 5 + 2]? = some vrc) := ⟨by
      have h := flatten_get css1 H1.five i 2 _ hcsi (by omega)
      rw [← hR4, List.getElem?_take, if_pos (by omega)] at h
      exact h⟩
    have HOC := Hd.mk hOrc
    have HOP := Hd.mk hOrp
    have HG := Hd.mk hgt
    have HBR := Hd.mk hbR
    have HH := Hd.mk H1
    have HCS := Hd.mk hcsi
    have HRISE := Hd.mk hTrise
    have HINB := Hd.mk hTinb
    have HREG := Hd.mk hTreg
    clear hTreg hTrise hTinb hgt' hv2 hv' hR1 hR2 hR3 hR4 hOrc hOrp hgt hbR H1 hcsi
    refine (empty_any W1 ρ1 a vp1 ({ s1 with regs := setCur s1.regs i z words } : PSt).np ({ s1 with regs := setCur s1.regs i z words } : PSt).data _ HH.out.blk rfl HH.out.tag HH.out.pages t words hTfit (by omega)).mono ?_
    rintro e w2 ⟨rfl, hO2, hS2⟩
    have hbR2 := hS2.blk' HBR.out HG.out (by simp)
    have hOC2 := HOC.out.step hS2 (by simp)
    have HS2 := Hd.mk hS2
    have HO2 := Hd.mk hO2
    obtain ⟨Ac, cc, rfl, hcc1, hcc2⟩ := hOC2.form
    have hc2 := hbR2.cell HLR.out
    have HOC2 := Hd.mk hOC2
    clear hS2 hO2 hOC2
    go_wp2_with fail
    refine (bsf_any 37 InB cmp1 cf1 w2 ρ1 (6, i) Ac cc ({ r1 with cur := z, fil := words } : PReg).cls HOC2.out t (Nat.le_trans hTcls (by decide)) HRISE.out (by unfold InB; omega) HINB.out).mono ?_
    rintro e w3 ⟨k, b, rfl, hpl, _, hb3⟩
    have hS3 : Step (· = (3, 0)) w2 ρ1 w3 ρ1 := (Step.refl _ _ _).of_below hb3
    have HS3 := Hd.mk (HS2.out.trans hS3)
    have hbR3 := hS3.blk' hbR2 HG.out (by simp)
    have hOC3 := HOC2.out.step hS3 (by simp)
    have hO3 := pages_own hS3 HO2.out hb3
    have hc3 := hbR3.cell HLR.out
    have hkl := hpl.le
    rw [ats_length] at hkl
    have HOC3 := Hd.mk hOC3
    have HO3 := Hd.mk hO3
    have HPL := Hd.mk hpl
    have hfr3 := HS3.out.fresh HFR.out
    clear hb3 hS3 hOC3 hO3 hpl hc2 hbR2
    go_wp2_with fail
    refine (ins_any _ ρ1 (6, i) Ac ({ r1 with cur := z, fil := words } : PReg).cls.length cc k w3.heap.size (pairs ({ r1 with cur := z, fil := words } : PReg).cls) [.int .i64 t, .int .i64 words] (HOC3.out.alloc _) (Nat.le_trans hTcls (by decide)) (Blk.new w3 _ 63) (by rw [hfr3 _ (Nat.le_refl _)]; simp) rfl (by simp [Value.oneCell']) hkl (by
      intro u hu
      simp only [pairs, List.mem_flatMap] at hu
      obtain ⟨x, _, hx⟩ := hu
      simp at hx
      rcases hx with rfl | rfl <;> rfl)).mono ?_
    rintro e w4 ⟨vq, ρ4, rfl, hO4, hS4⟩
    have hS4' : Step (fun t => t = (3, 0) ∨ t = (6, i)) W1 ρ1 w4 ρ4 := ((HS3.out.alloc _).mono (by intro t h; exact .inl h)).trans (hS4.mono (by intro t h; exact .inr h))
    have hbR4 := hS4.blk' (hbR3.alloc _) HG.out (by simp)
    have hbA4 := hS4'.blk' HH.out.blk HH.out.tag (by simp)
    have htA4 := hS4'.tag HH.out.blk.lt HH.out.tag
    have htR4 := hS4'.tag HBR.out.lt HG.out
    obtain ⟨A4, c4, rfl, _, _⟩ := hO4.form
    have hPG4 := (HO3.out.alloc (.cells [Value.int .i64 t, .int .i64 words].toArray 63)).step hS4 (by simp)
    have y1 := hbA4.cell (i := 4) rfl
    have y1f := hbA4.free 4
    have y2 := hbR4.cell HLR.out
    have y2f := hbR4.free (i * 5 + 2)
    have hne : a ≠ g := by rintro rfl; rw [htA4] at htR4; cases htR4
    have HO4 := Hd.mk hO4
    have HS4 := Hd.mk hS4'
    have HPG4 := Hd.mk hPG4
    have HB4 := Hd.mk hbA4
    have HBR4 := Hd.mk hbR4
    obtain ⟨hTh1, hTh2⟩ := hTheld
    clear hO4 hS4 hS4' hPG4 hfr3 hbA4 hbR4 hc3 hbR3
    go_wp2
    go_ret2
    have hcls : (({ r1 with cur := z, fil := words } : PReg).cls.length + 1) = (insCls ({ r1 with cur := z, fil := words } : PReg).cls ((t : Int), (words : Int))).length ∧ (pairs ({ r1 with cur := z, fil := words } : PReg).cls).take (k * 2) ++ [Value.int .i64 t, .int .i64 words] ++ (pairs ({ r1 with cur := z, fil := words } : PReg).cls).drop (k * 2) = pairs (insCls ({ r1 with cur := z, fil := words } : PReg).cls ((t : Int), (words : Int))) := ins_pairs (placeOf_eq HPL.out) hkl
    have hOcl := HO4.out
    rw [hcls.1, hcls.2] at hOcl
    refine ⟨ρ4, by rfl, ?_, (HSTEP.out.trans (((HS4.out.mono (by rintro t (rfl | rfl) <;> simp [STag])).setCell htR4 (by simp [STag]) _).setCell htA4 (by simp [STag]) _))⟩
    have hfin := tail_core HH.out HREG.out HVR.out HRF.out HCS.out HOP.out _ HS4.out (fun t h => h) (zeroAt ({ s1 with regs := setCur s1.regs i z words } : PSt).data t words) (({ s1 with regs := setCur s1.regs i z words } : PSt).held + words) _ HB4.out htA4 HBR4.out htR4 HPG4.out hOcl
    have hcl1 : r1.cls.length + 1 = _ := hcls.1
    rw [hcl1]
    rw [finS, modify_set HREG.out]
    exact ⟨_, hfin⟩

end Go.Proofs.Ytgejmgomliadmaa
