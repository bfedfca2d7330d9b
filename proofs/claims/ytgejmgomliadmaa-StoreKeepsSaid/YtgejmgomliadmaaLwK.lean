/- StoreKeeps: the walk. -/
import Derived.Test.YtgejmgomliadmaaUsO
import Derived.Test.YtgejmgomliadmaaLwB
import Derived.Deep.RegionLaw
set_option linter.unusedVariables false
namespace Go.Proofs.Ytgejmgomliadmaa
open Go Go.RowKit

theorem SK_long (w : World) (A : Option Addr) (n c : Nat) (hn : n ≤ maxLen) (hl : 60 < n) :
    Calls Try.prog 4 #[.slice A n c] w fun e w' => e = .returned (.bool true) ∧ Below w.heap.size w w' := by
  have HF := Hd.mk (few_any w A n c hn)
  have HH := Hd.mk (head_any w)
  have hd : decide (n ≤ 60) = false := by simp; omega
  rw [hd] at HF
  go_enter Try.func4, Try.ntmps4
  go_wp2_with fail
  refine HF.out.mono ?_
  rintro e w' ⟨rfl, rfl⟩
  go_wp2_with fail
  refine HH.out.mono ?_
  rintro e w' ⟨rfl, hb⟩
  go_wp2
  go_ret
  exact ⟨rfl, hb⟩

set_option maxRecDepth 100000 in
set_option maxHeartbeats 4000000 in
theorem SK_short (w : World) (A : Option Addr) (c : Nat) (L : List POp) (hl : L.length ≤ 60) (hO : 0 < L.length → ∃ B o, A = some ⟨B, o, none⟩ ∧ OpsAt w B o L) :
    Calls Try.prog 4 #[.slice A L.length c] w fun e w' => e = .returned (.bool true) ∧ Below w.heap.size w w' := by
  have HF := Hd.mk (few_any w A L.length c (by unfold maxLen; omega))
  have hd : decide (L.length ≤ 60) = true := by simp; omega
  rw [hd] at HF
  have HO := Hd.mk hO
  clear hO
  go_enter Try.func4, Try.ntmps4
  go_wp2_with fail
  refine HF.out.mono ?_
  rintro e w' ⟨rfl, rfl⟩
  clear HF hd
  go_wp2_with fail
  refine (New_any w rho0).mono ?_
  rintro e w1 ⟨ρ1, rfl, H1, HS1⟩
  generalize w.heap.size = a at H1
  obtain ⟨hu0, hs0'⟩ := urep_new H1
  have HU0 := Hd.mk hu0
  have HS0 := Hd.mk ((HS1.mono (T' := AnyT) (fun _ _ => trivial)).trans (hs0'.mono (fun _ _ => trivial)))
  clear H1 HS1 hu0 hs0'
  go_wp2_with fail
  generalize w1.alloc (.cells #[.pointer (some ⟨a, 0, none⟩), .int .i64 0, .slice none 0 0, .slice none 0 0, .bool false] 45) = W0 at *
  generalize ρ1.put w1.heap.size (10, 0) = ρ0 at *
  generalize w1.heap.size = u at *
  go_loopw [4] (fun v wr => ∃ (i : Nat) (ρr : Ghost) (S : USt), v = .int .i64 i ∧ i ≤ L.length ∧ UInv i S ∧ URep wr ρr u S ∧ Step AnyT w rho0 wr ρr) (fun v _ => L.length - (intOf v).toNat)
  case atStart => exact ⟨0, ρ0, _, by simp, by omega, uinv_new, HU0.out, HS0.out⟩
  case round =>
    obtain ⟨i, ρ, S, rfl, hi, hI, hU, hS⟩ := hrel
    have HU := Hd.mk hU
    have HS := Hd.mk hS
    have HI := Hd.mk hI
    clear hU hS hI
    by_cases hlt : i < L.length
    · obtain ⟨B, o, rfl, hBs, hops⟩ := HO.out (by omega)
      have hx := (hops i _ (List.getElem?_eq_getElem hlt)).step HS.out hBs
      generalize L[i] = x at *
      obtain ⟨d, r, n, ad, f, v⟩ := x
      obtain ⟨hd, q0, q1, q2, q3, q4, q5⟩ := hx
      dsimp only at hd q0 q1 q2 q3 q4 q5
      have HH := Hd.mk hops
      have HD := Hd.mk hd
      clear hops hd
      go_wp2_with fail
      refine (with_any wr ρ u S HU.out HI.out (by omega) (HS.out.fresh (fresh0 w)) d HD.out r n ad f v).mono ?_
      clear q0 q1 q2 q3 q4 q5
      rintro e W ⟨S', ρ', rfl, hU', hm, hst⟩
      have HI' := Hd.mk (uinv_move HI.out (by omega) hm)
      have HM := Hd.mk hm
      have HS' := Hd.mk (HS.out.trans (hst.mono (fun _ _ => trivial)))
      obtain ⟨a', ko, kc, vo, vc, hA'⟩ := hU'
      have HA' := Hd.mk hA'
      obtain ⟨Ac, cc, rfl, _, _⟩ := hA'.c.form
      clear hm hst hA'
      have y3 := HA'.out.blk.cell (i := 3) rfl
      go_wp2_with fail
      refine (apart_any W Ac cc S'.cs (HA'.out.celsAt HI'.out (by omega)) HI'.out.good.apart).mono ?_
      clear y3
      rintro e W2 ⟨n1, rfl, rfl⟩
      have HA2 := Hd.mk (HA'.out.step0 ((Step.refl (fun _ => False) W ρ').drewN n1))
      have HS2 := Hd.mk (HS'.out.drewN n1)
      generalize W.drewN n1 = W2 at *
      go_wp2_with fail
      obtain ⟨b1, b2, b3, b4⟩ := HI'.out.bounds (by omega)
      have HB4 := Hd.mk b4
      clear b4 b2 b3
      go_loopw [5, 6] (fun vw vk wr => ∃ (k : Nat), vk = .int .i64 k ∧ k ≤ S'.cs.length ∧ vw = .int .i64 (wdTo S'.cs k) ∧ URepAt wr ρ' u a' S' ko kc vo (.slice Ac S'.cs.length cc) ∧ Step AnyT w rho0 wr ρ') (fun _ v _ => S'.cs.length - (intOf v).toNat)
      case atStart => exact ⟨0, by simp, by omega, by simp [wdTo, sumF], HA2.out, HS2.out⟩
      case round =>
        obtain ⟨k, rfl, hk, rfl, hA3, hS3⟩ := hrel
        have HA3 := Hd.mk hA3
        have HS3 := Hd.mk hS3
        have y3 := hA3.blk.cell (i := 3) rfl
        have y0 := hA3.blk.cell (i := 0) rfl
        clear hA3 hS3
        by_cases hlk : k < S'.cs.length
        · obtain ⟨c, hck⟩ : ∃ c, S'.cs[k]? = some c := ⟨_, List.getElem?_eq_getElem hlk⟩
          have hcm := List.mem_of_getElem? hck
          have hbc := HB4.out c hcm
          have hwl := wdTo_le (fun c hc => (HB4.out c hc).2.2.2) k (by omega)
          have HWS := Hd.mk (wdTo_succ hck)
          obtain ⟨_, _, hcel⟩ := HA3.out.celsAt HI'.out (by omega)
          obtain ⟨g, rfl, p0, p1, p2⟩ := hcel k c hck
          have HCK := Hd.mk hck
          have HCM := Hd.mk hcm
          have hki0 : (0 : Int) ≤ k := by omega
          have hki : (k : Int) < S'.cs.length := by omega
          have hs3 := (Step.refl (fun _ => False) wr ρ').drew
          have y3d : wr.drew.cell? ⟨u, 3, none⟩ = some (.slice (some ⟨g, 0, none⟩) S'.cs.length cc) := y3
          have y0d : wr.drew.cell? ⟨u, 0, none⟩ = some (.pointer (some ⟨a', 0, none⟩)) := y0
          have p0d : wr.drew.cell? ⟨g, k * 3, none⟩ = some (.int .i64 c.reg) := p0
          have p1d : wr.drew.cell? ⟨g, k * 3 + 1, none⟩ = some (.int .i64 c.at_) := p1
          have p2d : wr.drew.cell? ⟨g, k * 3 + 2, none⟩ = some (.slice (some ⟨c.g, 0, none⟩) c.fs.length c.fs.length) := p2
          have hsm := same_any HI'.out.good (by omega) wr.drew ρ' a' (HA3.out.step0 hs3).st c (List.mem_map.2 ⟨c, hcm, rfl⟩) ((HA3.out.step0 hs3).f c hcm).1 (HI'.out.data c hcm)
          have HSM := Hd.mk hsm
          clear hcel hck hcm hsm
          go_wp2_with fail
          go_region_held3 (fun wv => wv.cell? ⟨u, 3, none⟩ = some (.slice (some ⟨g, 0, none⟩) S'.cs.length cc) ∧ wv.cell? ⟨u, 0, none⟩ = some (.pointer (some ⟨a', 0, none⟩)) ∧ wv.cell? ⟨g, k * 3, none⟩ = some (.int .i64 c.reg) ∧ wv.cell? ⟨g, k * 3 + 1, none⟩ = some (.int .i64 c.at_) ∧ wv.cell? ⟨g, k * 3 + 2, none⟩ = some (.slice (some ⟨c.g, 0, none⟩) c.fs.length c.fs.length)) (first | assumption | (refine ⟨?_, ?_, ?_, ?_, ?_⟩ <;> assumption)) (first | (go_at_call 29; refine HSM.out.mono ?_; rintro e W5 ⟨rfl, hb5⟩; have hs5 := hs3.of_below hb5; have HA5 := Hd.mk (HA3.out.step0 hs5); have HS5 := Hd.mk (HS3.out.trans (hs5.mono (fun _ h => h.elim))); have f3 := HA5.out.blk.cell (i := 3) rfl; have f0 := HA5.out.blk.cell (i := 0) rfl; obtain ⟨_, _, hcel⟩ := HA5.out.celsAt HI'.out (by omega); obtain ⟨g', hg', r0, r1, r2⟩ := hcel k c HCK.out; cases hg'; clear hcel hs5 hb5))
          clear y3d y0d p0d p1d p2d y3 y0 p0 p1 p2 hs3 HSM
          go_wp2
          go_roundw
          case rel => exact ⟨k + 1, by go_num, by omega, by rw [HWS.out], HA5.out, HS5.out⟩
          case measure => simp [intOf]; omega
        · have hke : k = S'.cs.length := by omega
          subst hke
          go_wp2_with fail
          refine (Words_any wr ρ' a' S'.s HA3.out.st).mono ?_
          rintro e w9 ⟨rfl, rfl⟩
          have hh := HI'.out.held
          rw [hh]
          clear hh
          go_wp2
          go_roundw
          case rel => exact ⟨i + 1, ρ', S', by go_num, by omega, HI'.out, ⟨a', ko, kc, vo, _, HA3.out⟩, HS3.out⟩
          case measure => simp [intOf]; omega
    · have hin : i = L.length := by omega
      subst hin
      go_wp2_with fail
      refine (head_any wr).mono ?_
      rintro e w9 ⟨rfl, hb⟩
      go_wp2
      go_ret
      exact ⟨rfl, (HS.out.of_below hb).below (fun _ _ => rfl)⟩

end Go.Proofs.Ytgejmgomliadmaa
