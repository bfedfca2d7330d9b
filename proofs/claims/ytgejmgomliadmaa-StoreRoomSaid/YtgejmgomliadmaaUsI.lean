/- The laws' user: apart. -/
import Derived.Test.YtgejmgomliadmaaUsH
set_option linter.unusedVariables false
namespace Go.Proofs.Ytgejmgomliadmaa
open Go Go.RowKit

set_option maxRecDepth 100000 in
theorem apart_any (w : World) (A : Option Addr) (c : Nat) (cs : List UC) (hC : CelsAt w A cs) (hap : (cs.map UC.cel).Pairwise Cel.apart) :
    Calls Try.prog 28 #[.slice A cs.length c] w fun e w' => ∃ n, e = .returned (.bool true) ∧ w' = w.drewN n := by
  have hl := hC.1
  have HC := Hd.mk hC
  have HP := Hd.mk hap
  clear hC hap
  go_enter Try.func28, Try.ntmps28
  go_wp2
  go_loopw [3] (fun v wr => ∃ i m : Nat, v = .int .i64 i ∧ i ≤ cs.length ∧ wr = w.drewN m) (fun v _ => cs.length - (intOf v).toNat)
  case atStart => exact ⟨0, 0, by simp, by omega, rfl⟩
  case round =>
    obtain ⟨i, m, rfl, hi, rfl⟩ := hrel
    by_cases hlt : i < cs.length
    · go_wp2
      go_loopw [4] (fun v wr => ∃ k m : Nat, v = .int .i64 k ∧ k ≤ i ∧ wr = w.drewN m) (fun v _ => i - (intOf v).toNat)
      case atStart => exact ⟨0, m, by simp, by omega, rfl⟩
      case round =>
        obtain ⟨k, m', rfl, hk, rfl⟩ := hrel
        by_cases hlk : k < i
        · have hkl : k < cs.length := by omega
          obtain ⟨g, rfl, p0, p1, p2⟩ := HC.out.2.2 i _ (List.getElem?_eq_getElem hlt)
          obtain ⟨g', hg', r0, r1, r2⟩ := HC.out.2.2 k _ (List.getElem?_eq_getElem hkl)
          cases hg'
          obtain ⟨_, hb1, hb2⟩ := HC.out.2.1 _ (List.getElem_mem hlt)
          obtain ⟨_, hb3, hb4⟩ := HC.out.2.1 _ (List.getElem_mem hkl)
          have hpa := (List.pairwise_iff_getElem.1 (List.pairwise_map.1 HP.out)) k i hkl hlt hlk
          generalize cs[i] = x at *
          generalize cs[k] = y at *
          unfold Cel.apart UC.cel at hpa
          dsimp only at hpa
          have s1 : (w.drewN m').cell? ⟨g, i * 3 + 1, none⟩ = some (.int .i64 x.at_) := p1
          have s2 : (w.drewN m').cell? ⟨g, i * 3 + 2, none⟩ = some (.slice (some ⟨x.g, 0, none⟩) x.fs.length x.fs.length) := p2
          have s3 : (w.drewN m').cell? ⟨g, k * 3 + 1, none⟩ = some (.int .i64 y.at_) := r1
          have s4 : (w.drewN m').cell? ⟨g, k * 3 + 2, none⟩ = some (.slice (some ⟨y.g, 0, none⟩) y.fs.length y.fs.length) := r2
          have e1 : IntKind.i64.wrap ((y.at_ : Int) + y.fs.length) = (y.at_ : Int) + y.fs.length := IntWalk.i64_in _ (by omega)
          have e2 : IntKind.i64.wrap ((x.at_ : Int) + x.fs.length) = (x.at_ : Int) + x.fs.length := IntWalk.i64_in _ (by omega)
          have hii : (i : Int) < cs.length := by omega
          have hki : (k : Int) < cs.length := by omega
          clear p0 p1 p2 r0 r1 r2
          generalize hW : w.drewN m' = W at *
          have HW := Hd.mk hW
          clear hW
          by_cases ho : (x.at_ : Int) < (y.at_ : Int) + y.fs.length
          · have ho2 : ¬ ((y.at_ : Int) < (x.at_ : Int) + x.fs.length) := by omega
            go_wp2_with fail
            go_quiet (fail)
            clear s1 s2 s3 s4 e1 e2
            go_wp2
            go_roundw
            case rel => exact ⟨k + 1, m' + nq, by go_num, by omega, by rw [← HW.out]; exact World.drewN_drewN _ _ _⟩
            case measure => simp [intOf]; omega
          · have hob : decide ((x.at_ : Int) < (y.at_ : Int) + y.fs.length) = false := decide_eq_false ho
            go_wp2_with fail
            go_quiet (fail)
            clear s1 s2 s3 s4 e1 e2
            go_wp2
            go_roundw
            case rel => exact ⟨k + 1, m' + nq, by go_num, by omega, by rw [← HW.out]; exact World.drewN_drewN _ _ _⟩
            case measure => simp [intOf]; omega
        · have hki : k = i := by omega
          have hnl : ¬ ((k : Int) < i) := by omega
          clear hki
          go_wp2
          go_roundw
          case rel => exact ⟨i + 1, m', by go_num, by omega, rfl⟩
          case measure => simp [intOf]; omega
    · have hnl : ¬ ((i : Int) < cs.length) := by omega
      go_wp2
      go_ret
      exact ⟨rfl, m, rfl⟩

end Go.Proofs.Ytgejmgomliadmaa
