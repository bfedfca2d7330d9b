/- StoreClosed: the walk. -/
import Derived.Test.YtgejmgomliadmaaUsO
import Derived.Test.YtgejmgomliadmaaLwB
import Derived.Deep.RegionLaw
set_option linter.unusedVariables false
namespace Go.Proofs.Ytgejmgomliadmaa
open Go Go.RowKit

theorem closed_of {N : Nat} {S : USt} (hI : UInv N S) {n : Nat} (h : (n : Int) ∉ S.opn) : isOpenB S.s n = false := by
  cases ho : isOpenB S.s n with
  | false => rfl
  | true =>
    obtain ⟨i, r, hi, hr, hro⟩ := isOpenB_some ho
    have : n = i := by omega
    subst this
    exact absurd (hI.all n r hr hro) h
theorem errOf_closed {s : PSt} {C : List Cel} {n : Int} (h : isOpenB s n = false) (x f : Int) : errOf s C n x f = 70 := by
  unfold errOf
  rw [if_neg (by rw [h]; simp)]
theorem take_mem_succ {l : List Int} {k : Nat} {x m : Int} (h : l[k]? = some x) : m ∈ l.take (k + 1) ↔ m ∈ l.take k ∨ x = m := by
  rw [List.take_add_one, h, Option.toList_some, List.mem_append, List.mem_singleton]
  constructor
  · rintro (h | h)
    · exact .inl h
    · exact .inr h.symm
  · rintro (h | h)
    · exact .inl h
    · exact .inr h.symm

theorem SC_long (w : World) (A : Option Addr) (n c : Nat) (hn : n ≤ maxLen) (hl : 60 < n) :
    Calls Try.prog 5 #[.slice A n c] w fun e w' => e = .returned (.bool true) ∧ Below w.heap.size w w' := by
  have HF := Hd.mk (few_any w A n c hn)
  have HH := Hd.mk (head_any w)
  have hd : decide (n ≤ 60) = false := by simp; omega
  rw [hd] at HF
  go_enter Try.func5, Try.ntmps5
  go_wp2_with fail
  refine HF.out.mono ?_
  rintro e w' ⟨rfl, rfl⟩
  go_wp2_with fail
  refine HH.out.mono ?_
  rintro e w' ⟨rfl, hb⟩
  go_wp2
  go_ret
  exact ⟨rfl, hb⟩

set_option maxRecDepth 100000 in
set_option maxHeartbeats 4000000 in
theorem SC_short (w : World) (A : Option Addr) (c : Nat) (L : List POp) (hl : L.length ≤ 60) (hO : 0 < L.length → ∃ B o, A = some ⟨B, o, none⟩ ∧ OpsAt w B o L) :
    Calls Try.prog 5 #[.slice A L.length c] w fun e w' => e = .returned (.bool true) ∧ Below w.heap.size w w' := by
  have HF := Hd.mk (few_any w A L.length c (by unfold maxLen; omega))
  have hd : decide (L.length ≤ 60) = true := by simp; omega
  rw [hd] at HF
  have HO := Hd.mk hO
  clear hO
  go_enter Try.func5, Try.ntmps5
  go_wp2_with fail
  refine HF.out.mono ?_
  rintro e w' ⟨rfl, rfl⟩
  clear HF hd
  go_wp2_with fail
  refine (New_any w rho0).mono ?_
  rintro e w1 ⟨ρ1, rfl, H1, HS1⟩
  generalize w.heap.size = a at H1
  obtain ⟨hu0, hs0'⟩ := urep_new H1
  have HU0 := Hd.mk hu0
  have HS0 := Hd.mk ((HS1.mono (T' := AnyT) (fun _ _ => trivial)).trans (hs0'.mono (fun _ _ => trivial)))
  clear H1 HS1 hu0 hs0'
  go_wp2_with fail
  generalize w1.alloc (.cells #[.pointer (some ⟨a, 0, none⟩), .int .i64 0, .slice none 0 0, .slice none 0 0, .bool false] 45) = W0 at *
  generalize ρ1.put w1.heap.size (10, 0) = ρ0 at *
  generalize w1.heap.size = u at *
  go_loopw [4] (fun v wr => ∃ (i : Nat) (ρr : Ghost) (S : USt), v = .int .i64 i ∧ i ≤ L.length ∧ UInv i S ∧ URep wr ρr u S ∧ Step AnyT w rho0 wr ρr) (fun v _ => L.length - (intOf v).toNat)
  case atStart => exact ⟨0, ρ0, _, by simp, by omega, uinv_new, HU0.out, HS0.out⟩
  case round =>
    obtain ⟨i, ρ, S, rfl, hi, hI, hU, hS⟩ := hrel
    have HU := Hd.mk hU
    have HS := Hd.mk hS
    have HI := Hd.mk hI
    clear hU hS hI
    by_cases hlt : i < L.length
    · obtain ⟨B, o, rfl, hBs, hops⟩ := HO.out (by omega)
      have hx := (hops i _ (List.getElem?_eq_getElem hlt)).step HS.out hBs
      generalize L[i] = x at *
      obtain ⟨d, r, n, ad, f, v⟩ := x
      obtain ⟨hd, q0, q1, q2, q3, q4, q5⟩ := hx
      dsimp only at hd q0 q1 q2 q3 q4 q5
      have HH := Hd.mk hops
      have HD := Hd.mk hd
      clear hops hd
      go_wp2_with fail
      refine (with_any wr ρ u S HU.out HI.out (by omega) (HS.out.fresh (fresh0 w)) d HD.out r n ad f v).mono ?_
      clear q0 q1 q2 q3 q4 q5
      rintro e W ⟨S', ρ', rfl, hU', hm, hst⟩
      have HI' := Hd.mk (uinv_move HI.out (by omega) hm)
      have HM := Hd.mk hm
      have HS' := Hd.mk (HS.out.trans (hst.mono (fun _ _ => trivial)))
      obtain ⟨a', ko, kc, vo, vc, hA'⟩ := hU'
      have HA' := Hd.mk hA'
      obtain ⟨Ac, cc, rfl, _, _⟩ := hA'.c.form
      clear hm hst hA'
      obtain ⟨Ao, co, rfl, _, _⟩ := HA'.out.o.form
      obtain ⟨b1, b2, b3, b4⟩ := HI'.out.bounds (by omega)
      clear b4 b1
      go_wp2_with fail
      go_loopw [5] (fun vn wr => ∃ (m : Nat) (ρr : Ghost), vn = .int .i64 m ∧ m ≤ S'.many ∧ URepAt wr ρr u a' S' ko kc (.slice Ao S'.opn.length co) (.slice Ac S'.cs.length cc) ∧ Step AnyT w rho0 wr ρr) (fun v _ => S'.many - (intOf v).toNat)
      case atStart => exact ⟨0, ρ', by simp, by omega, HA'.out, HS'.out⟩
      case round =>
        obtain ⟨m, ρr, rfl, hm, hA3, hS3⟩ := hrel
        have HA3 := Hd.mk hA3
        have HS3 := Hd.mk hS3
        have y1 := hA3.blk.cell (i := 1) rfl
        have y2 := hA3.blk.cell (i := 2) rfl
        have y0 := hA3.blk.cell (i := 0) rfl
        clear hA3 hS3
        by_cases hlm : m < S'.many
        · go_wp2_with fail
          go_loop [6, 7] (fun vb vk => ∃ (b : Bool) (k : Nat), vb = .bool b ∧ vk = .int .i64 k ∧ k ≤ S'.opn.length ∧ (b = true ↔ (m : Int) ∈ S'.opn.take k)) (fun _ v => S'.opn.length - (intOf v).toNat)
          case atStart => exact ⟨false, 0, rfl, by simp, by omega, by simp⟩
          case round =>
            obtain ⟨b, k, rfl, rfl, hk, hb⟩ := hrel
            by_cases hlk : k < S'.opn.length
            · obtain ⟨g2, c2, hv, _, _, _, hc2, _, _⟩ := HA3.out.o.some (by omega)
              cases hv
              have q2 := hc2 k (by omega)
              rw [ints_get hlk] at q2
              have hg : S'.opn[k]? = some (S'.opn.getD k 0) := by rw [List.getD_eq_getElem?_getD, List.getElem?_eq_getElem hlk]; rfl
              have HTM := Hd.mk (take_mem_succ (m := (m : Int)) hg)
              generalize S'.opn.getD k 0 = x at *
              have HBB := Hd.mk hb
              have hki : (k : Int) < S'.opn.length := by omega
              have hki0 : (0 : Int) ≤ k := by omega
              clear hb hc2 hg
              cases b with
              | true =>
                go_wp2
                go_round
                case rel => exact ⟨true, k + 1, rfl, by go_num, by omega, by rw [HTM.out, ← HBB.out]; simp⟩
                case measure => simp [intOf]; omega
              | false =>
                go_wp2
                go_round
                case rel => exact ⟨_, k + 1, rfl, by go_num, by omega, by rw [HTM.out, ← HBB.out]; simp⟩
                case measure => simp [intOf]; omega
            · have hke : k = S'.opn.length := by omega
              subst hke
              rw [List.take_length] at hb
              have HBB := Hd.mk hb
              clear hb
              cases b with
              | true =>
                go_wp2
                go_roundw
                case rel => exact ⟨m + 1, ρr, by go_num, by omega, HA3.out, HS3.out⟩
                case measure => simp [intOf]; omega
              | false =>
                have hcl : isOpenB S'.s (m : Int) = false := closed_of HI'.out (fun h => by have := HBB.out.2 h; cases this)
                have HCL := Hd.mk hcl
                clear hcl
                go_wp2_with fail
                refine (alloc_closed wr ρr a' S'.s HA3.out.st m 1 HCL.out).mono ?_
                rintro e w5 ⟨rfl, rfl⟩
                go_wp2_with fail
                have hget := get_good HI'.out.good (by omega) wr ρr a' HA3.out.st m 0 0
                rw [errOf_closed HCL.out, if_neg (by omega)] at hget
                refine hget.mono ?_
                clear hget y0 y1 y2
                rintro e w5 ⟨rfl, hb5⟩
                have hs5 := (Step.refl (fun _ => False) wr ρr).of_below hb5
                have HA5 := Hd.mk (HA3.out.step0 hs5)
                have HS5 := Hd.mk (HS3.out.trans (hs5.mono (fun _ h => h.elim)))
                have y0 := HA5.out.blk.cell (i := 0) rfl
                clear hs5 hb5
                go_wp2_with fail
                have hset := set_good HI'.out.good (by omega) w5 ρr a' HA5.out.st m 0 0 1
                rw [setS, errOf_closed HCL.out, if_neg (by omega)] at hset
                refine hset.mono ?_
                clear hset y0
                rintro e w6 ⟨ρ6, rfl, R6, hs6⟩
                have HA6 := Hd.mk (HA5.out.store hs6 R6)
                have HS6 := Hd.mk (HS5.out.trans (hs6.mono (fun _ _ => trivial)))
                have y0 : w6.cell? ⟨u, 0, none⟩ = some (.pointer (some ⟨a', 0, none⟩)) := HA6.out.blk.cell (i := 0) rfl
                clear hs6 R6
                go_wp2_with fail
                refine (close_none w6 ρ6 a' S'.s HA6.out.st m HCL.out).mono ?_
                rintro e w7 ⟨rfl, rfl⟩
                go_wp2
                go_roundw
                case rel => exact ⟨m + 1, ρ6, by go_num, by omega, HA6.out, HS6.out⟩
                case measure => simp [intOf]; omega
        · have hme : m = S'.many := by omega
          subst hme
          go_wp2
          go_roundw
          case rel => exact ⟨i + 1, ρr, S', by go_num, by omega, HI'.out, ⟨a', ko, kc, _, _, HA3.out⟩, HS3.out⟩
          case measure => simp [intOf]; omega
    · have hin : i = L.length := by omega
      subst hin
      go_wp2_with fail
      refine (head_any wr).mono ?_
      rintro e w9 ⟨rfl, hb⟩
      go_wp2
      go_ret
      exact ⟨rfl, (HS.out.of_below hb).below (fun _ _ => rfl)⟩

end Go.Proofs.Ytgejmgomliadmaa
