/- StoreRoom: the walk. -/
import Derived.Test.YtgejmgomliadmaaUsO
import Derived.Test.YtgejmgomliadmaaLwB
import Derived.Deep.RegionLaw
set_option linter.unusedVariables false
namespace Go.Proofs.Ytgejmgomliadmaa
open Go Go.RowKit

theorem roomOf_le {cs : List UC} (h : ∀ c ∈ cs, c.reg ≤ 1000000 ∧ c.at_ ≤ 10000000 ∧ c.fs.length ≤ 10000) (hl : cs.length ≤ 200) (n : Int) : 0 ≤ roomOf cs n ∧ roomOf cs n ≤ 300000 := by
  obtain ⟨h1, h2, h3, h4⟩ := sums_le h n cs.length (Nat.le_refl _)
  unfold roomOf
  split <;> omega
theorem roomSum_le {S : USt} (h : ∀ c ∈ S.cs, c.reg ≤ 1000000 ∧ c.at_ ≤ 10000000 ∧ c.fs.length ≤ 10000) (hl : S.cs.length ≤ 200) (j : Nat) (hj : j ≤ S.opn.length) : 0 ≤ roomSum S j ∧ roomSum S j ≤ 300000 * j := by
  induction j with
  | zero => simp [roomSum]
  | succ j ih =>
    have hlt : j < S.opn.length := by omega
    have h1 := ih (by omega)
    have h2 := roomOf_le h hl S.opn[j]
    rw [roomSum_succ (List.getElem?_eq_getElem hlt)]
    omega

theorem SR_long (w : World) (A : Option Addr) (n c : Nat) (hn : n ≤ maxLen) (hl : 60 < n) :
    Calls Try.prog 6 #[.slice A n c] w fun e w' => e = .returned (.bool true) ∧ Below w.heap.size w w' := by
  have HF := Hd.mk (few_any w A n c hn)
  have HH := Hd.mk (head_any w)
  have hd : decide (n ≤ 60) = false := by simp; omega
  rw [hd] at HF
  go_enter Try.func6, Try.ntmps6
  go_wp2_with fail
  refine HF.out.mono ?_
  rintro e w' ⟨rfl, rfl⟩
  go_wp2_with fail
  refine HH.out.mono ?_
  rintro e w' ⟨rfl, hb⟩
  go_wp2
  go_ret
  exact ⟨rfl, hb⟩

set_option maxRecDepth 100000 in
set_option maxHeartbeats 4000000 in
theorem SR_short (w : World) (A : Option Addr) (c : Nat) (L : List POp) (hl : L.length ≤ 60) (hO : 0 < L.length → ∃ B o, A = some ⟨B, o, none⟩ ∧ OpsAt w B o L) :
    Calls Try.prog 6 #[.slice A L.length c] w fun e w' => e = .returned (.bool true) ∧ Below w.heap.size w w' := by
  have HF := Hd.mk (few_any w A L.length c (by unfold maxLen; omega))
  have hd : decide (L.length ≤ 60) = true := by simp; omega
  rw [hd] at HF
  have HO := Hd.mk hO
  clear hO
  go_enter Try.func6, Try.ntmps6
  go_wp2_with fail
  refine HF.out.mono ?_
  rintro e w' ⟨rfl, rfl⟩
  clear HF hd
  go_wp2_with fail
  refine (New_any w rho0).mono ?_
  rintro e w1 ⟨ρ1, rfl, H1, HS1⟩
  generalize w.heap.size = a at H1
  obtain ⟨hu0, hs0'⟩ := urep_new H1
  have HU0 := Hd.mk hu0
  have HS0 := Hd.mk ((HS1.mono (T' := AnyT) (fun _ _ => trivial)).trans (hs0'.mono (fun _ _ => trivial)))
  clear H1 HS1 hu0 hs0'
  go_wp2_with fail
  generalize w1.alloc (.cells #[.pointer (some ⟨a, 0, none⟩), .int .i64 0, .slice none 0 0, .slice none 0 0, .bool false] 45) = W0 at *
  generalize ρ1.put w1.heap.size (10, 0) = ρ0 at *
  generalize w1.heap.size = u at *
  go_loopw [4, 5] (fun vm v wr => ∃ (i : Nat) (ρr : Ghost) (S : USt) (most : Int), v = .int .i64 i ∧ vm = .int .i64 most ∧ 0 ≤ most ∧ i ≤ L.length ∧ UInv i S ∧ RoomInv S most ∧ URep wr ρr u S ∧ Step AnyT w rho0 wr ρr) (fun _ v _ => L.length - (intOf v).toNat)
  case atStart => exact ⟨0, ρ0, _, 0, by simp, by simp, by omega, by omega, uinv_new, room_new, HU0.out, HS0.out⟩
  case round =>
    obtain ⟨i, ρ, S, most, rfl, rfl, hmo, hi, hI, hRI, hU, hS⟩ := hrel
    have HRI := Hd.mk hRI
    clear hRI
    have HU := Hd.mk hU
    have HS := Hd.mk hS
    have HI := Hd.mk hI
    clear hU hS hI
    by_cases hlt : i < L.length
    · obtain ⟨B, o, rfl, hBs, hops⟩ := HO.out (by omega)
      have hx := (hops i _ (List.getElem?_eq_getElem hlt)).step HS.out hBs
      generalize L[i] = x at *
      obtain ⟨d, r, n, ad, f, v⟩ := x
      obtain ⟨hd, q0, q1, q2, q3, q4, q5⟩ := hx
      dsimp only at hd q0 q1 q2 q3 q4 q5
      have HH := Hd.mk hops
      have HD := Hd.mk hd
      clear hops hd
      go_wp2_with fail
      refine (with_any wr ρ u S HU.out HI.out (by omega) (HS.out.fresh (fresh0 w)) d HD.out r n ad f v).mono ?_
      clear q0 q1 q2 q3 q4 q5
      rintro e W ⟨S', ρ', rfl, hU', hm, hst⟩
      have HI' := Hd.mk (uinv_move HI.out (by omega) hm)
      have HM := Hd.mk hm
      have HS' := Hd.mk (HS.out.trans (hst.mono (fun _ _ => trivial)))
      obtain ⟨a', ko, kc, vo, vc, hA'⟩ := hU'
      have HA' := Hd.mk hA'
      obtain ⟨Ac, cc, rfl, _, _⟩ := hA'.c.form
      clear hm hst hA'
      have HRI' := Hd.mk (room_move HI.out (by omega) HRI.out HM.out)
      obtain ⟨Ao, co, rfl, _, _⟩ := HA'.out.o.form
      obtain ⟨b1, b2, b3, b4⟩ := HI'.out.bounds (by omega)
      have HBC : Hd (∀ c ∈ S'.cs, c.reg ≤ 1000000 ∧ c.at_ ≤ 10000000 ∧ c.fs.length ≤ 10000) := ⟨fun c hc => by have := b4 c hc; omega⟩
      clear b4 b3
      go_wp2_with fail
      go_loopw [6, 7] (fun vn vk wr => ∃ (k : Nat), vk = .int .i64 k ∧ vn = .int .i64 (roomSum S' k) ∧ k ≤ S'.opn.length ∧ URepAt wr ρ' u a' S' ko kc (.slice Ao S'.opn.length co) (.slice Ac S'.cs.length cc) ∧ Step AnyT w rho0 wr ρ') (fun _ v _ => S'.opn.length - (intOf v).toNat)
      case atStart => exact ⟨0, by simp, by simp [roomSum], by omega, HA'.out, HS'.out⟩
      case round =>
        obtain ⟨k, rfl, rfl, hk, hA3, hS3⟩ := hrel
        have HA3 := Hd.mk hA3
        have HS3 := Hd.mk hS3
        have y2 := hA3.blk.cell (i := 2) rfl
        have y3 := hA3.blk.cell (i := 3) rfl
        have y0 := hA3.blk.cell (i := 0) rfl
        have y4 := hA3.blk.cell (i := 4) rfl
        clear hA3 hS3
        have hrs := roomSum_le HBC.out b1 k hk
        by_cases hlk : k < S'.opn.length
        · obtain ⟨g2, c2, hv, _, _, _, hc2, _, _⟩ := HA3.out.o.some (by omega)
          cases hv
          have q2 := hc2 k (by omega)
          rw [ints_get hlk] at q2
          have hg : S'.opn[k]? = some (S'.opn.getD k 0) := by rw [List.getD_eq_getElem?_getD, List.getElem?_eq_getElem hlk]; rfl
          have HRS := Hd.mk (roomSum_succ hg)
          generalize S'.opn.getD k 0 = x at *
          have hrb := roomOf_le HBC.out b1 x
          have HQ : Hd (∀ n, Calls Try.prog 30 #[.slice Ac S'.cs.length cc, .int .i64 x] (wr.drewN n) (fun e w' => e = .returned (.int .i64 (roomOf S'.cs x)) ∧ w' = wr.drewN n)) := ⟨fun n => (room_any (wr.drewN n) Ac cc S'.cs ((HA3.out.step0 ((Step.refl (fun _ => False) wr ρ').drewN n)).celsAt HI'.out (by omega)) x).mono (fun e w' ⟨h1, h2⟩ => ⟨h1, h2.symm⟩)⟩
          have hki : (k : Int) < S'.opn.length := by omega
          have hki0 : (0 : Int) ≤ k := by omega
          have hwr : IntKind.i64.wrap (roomSum S' k + roomOf S'.cs x) = roomSum S' k + roomOf S'.cs x := IntWalk.i64_in _ (by omega)
          clear hc2 hg
          go_wp2_with fail
          go_quiet ((go_at_call 30; exact Calls.quiet_of_same (HQ.out _)))
          have HA4 := Hd.mk (HA3.out.step0 ((Step.refl (fun _ => False) wr ρ').drewN nq))
          have HS4 := Hd.mk (HS3.out.drewN nq)
          generalize wr.drewN nq = W4 at *
          clear y0 y2 y3 y4 q2
          go_wp2
          go_roundw
          case rel => exact ⟨k + 1, by go_num, by rw [HRS.out], by omega, HA4.out, HS4.out⟩
          case measure => simp [intOf]; omega
        · have hke : k = S'.opn.length := by omega
          subst hke
          go_wp2_with fail
          refine (Pages_any wr ρ' a' S'.s HA3.out.st).mono ?_
          rintro e w5 ⟨rfl, rfl⟩
          go_wp2_with fail
          have hmx : 0 ≤ max most S'.s.used := by omega
          obtain ⟨hr1, hr2, hr3⟩ := room_holds HI'.out HRI'.out
          generalize max most S'.s.used = mx at *
          have hG := HI'.out.good
          have hu0 : 0 ≤ S'.s.used ∧ S'.s.used ≤ 60000 := by
            have h1 := hG.used
            have h2 := hG.len
            have h3 := hG.nnp
            omega
          have hwl : S'.s.wait.length ≤ 60000 := by
            have h2 := hG.len
            have h3 := hG.nnp
            omega
          have hhl := hG.held_le
          have hw16 : IntKind.i64.wrap (S'.s.used * 16) = S'.s.used * 16 := IntWalk.i64_in _ (by omega)
          have hwsm : IntKind.i64.wrap (S'.s.used + S'.s.wait.length) = S'.s.used + S'.s.wait.length := IntWalk.i64_in _ (by omega)
          have hn1 : ¬ roomSum S' S'.opn.length < S'.s.used := by omega
          have hn2 : ¬ S'.s.used * 16 < S'.s.held := by omega
          have hd1 : decide (roomSum S' S'.opn.length < S'.s.used) = false := by simpa using hn1
          have hd2 : decide (S'.s.used * 16 < S'.s.held) = false := by simpa using hn2
          have HP : Hd (∀ n, Calls Try.prog 23 #[.pointer (some ⟨a', 0, none⟩)] (wr.drewN n) (fun e w' => e = .returned (.int .i64 S'.s.used) ∧ w' = wr.drewN n)) := ⟨fun n => (Pages_any (wr.drewN n) ρ' a' S'.s (HA3.out.step0 ((Step.refl (fun _ => False) wr ρ').drewN n)).st).mono (fun e w' ⟨h1, h2⟩ => ⟨h1, h2.symm⟩)⟩
          have HW : Hd (∀ n, Calls Try.prog 21 #[.pointer (some ⟨a', 0, none⟩)] (wr.drewN n) (fun e w' => e = .returned (.int .i64 S'.s.held) ∧ w' = wr.drewN n)) := ⟨fun n => (Words_any (wr.drewN n) ρ' a' S'.s (HA3.out.step0 ((Step.refl (fun _ => False) wr ρ').drewN n)).st).mono (fun e w' ⟨h1, h2⟩ => ⟨h1, h2.symm⟩)⟩
          have HFr : Hd (∀ n, Calls Try.prog 25 #[.pointer (some ⟨a', 0, none⟩)] (wr.drewN n) (fun e w' => e = .returned (.int .i64 S'.s.wait.length) ∧ w' = wr.drewN n)) := ⟨fun n => (Free_any (wr.drewN n) ρ' a' S'.s (HA3.out.step0 ((Step.refl (fun _ => False) wr ρ').drewN n)).st).mono (fun e w' ⟨h1, h2⟩ => ⟨h1, h2.symm⟩)⟩
          clear hG hr1 hr2 hu0 hwl hhl hrs
          cases hlg : S'.large with
          | true =>
            rw [hlg] at y4
            clear hlg hr3
            go_quiet (first | (go_at_call 23; exact Calls.quiet_of_same (HP.out _)) | (go_at_call 21; exact Calls.quiet_of_same (HW.out _)) | (go_at_call 25; exact Calls.quiet_of_same (HFr.out _)))
            have HA4 := Hd.mk (HA3.out.step0 ((Step.refl (fun _ => False) wr ρ').drewN nq))
            have HS4 := Hd.mk (HS3.out.drewN nq)
            generalize wr.drewN nq = W4 at *
            clear y0 y2 y3 y4
            go_wp2
            go_roundw
            case rel => exact ⟨i + 1, ρ', S', mx, by go_num, rfl, hmx, by omega, HI'.out, HRI'.out, ⟨a', ko, kc, _, _, HA4.out⟩, HS4.out⟩
            case measure => simp [intOf]; omega
          | false =>
            have hsm := hr3 hlg
            rw [hlg] at y4
            have hws2 := hwsm.trans hsm
            clear hlg hr3 hsm hwsm
            go_quiet (first | (go_at_call 23; exact Calls.quiet_of_same (HP.out _)) | (go_at_call 21; exact Calls.quiet_of_same (HW.out _)) | (go_at_call 25; exact Calls.quiet_of_same (HFr.out _)))
            have HA4 := Hd.mk (HA3.out.step0 ((Step.refl (fun _ => False) wr ρ').drewN nq))
            have HS4 := Hd.mk (HS3.out.drewN nq)
            generalize wr.drewN nq = W4 at *
            clear y0 y2 y3 y4
            go_wp2
            go_roundw
            case rel => exact ⟨i + 1, ρ', S', mx, by go_num, rfl, hmx, by omega, HI'.out, HRI'.out, ⟨a', ko, kc, _, _, HA4.out⟩, HS4.out⟩
            case measure => simp [intOf]; omega
    · have hin : i = L.length := by omega
      subst hin
      go_wp2_with fail
      refine (head_any wr).mono ?_
      rintro e w9 ⟨rfl, hb⟩
      go_wp2
      go_ret
      exact ⟨rfl, (HS.out.of_below hb).below (fun _ _ => rfl)⟩

end Go.Proofs.Ytgejmgomliadmaa
