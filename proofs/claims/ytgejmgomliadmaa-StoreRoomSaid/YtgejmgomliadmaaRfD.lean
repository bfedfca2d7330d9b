/- The reference store in memory: take. -/
import Derived.Test.YtgejmgomliadmaaRfC
set_option linter.unusedVariables false
namespace Go.Proofs.Ytgejmgomliadmaa
open Go Go.RowKit

def rS (own : List Int) : Nat → Nat × Nat
  | 0 => (0, 0)
  | j + 1 => if own.getD j 0 = -1 then ((rS own j).1, (rS own j).2 + 1) else (j + 1, 0)
theorem rS_le (own : List Int) (j : Nat) : (rS own j).1 + (rS own j).2 = j := by
  induction j with
  | zero => rfl
  | succ j ih =>
    unfold rS
    split
    · dsimp only; omega
    · rfl
def rAt (own : List Int) (many : Nat) : Nat :=
  match (List.range (own.length + 1)).find? (fun j => decide (many ≤ (rS own j).2)) with
  | some j => (rS own j).1
  | none => own.length
theorem rAt_some {own : List Int} {many j : Nat} (hj : j ≤ own.length) (h : many ≤ (rS own j).2) (hn : ∀ q, q < j → (rS own q).2 < many) : rAt own many = (rS own j).1 := by
  have : (List.range (own.length + 1)).find? (fun j => decide (many ≤ (rS own j).2)) = some j := by
    rw [List.find?_range_eq_some]
    exact ⟨by simpa using h, List.mem_range.2 (by omega), fun q hq => by have := hn q hq; simp; omega⟩
  rw [rAt, this]
theorem rAt_none {own : List Int} {many : Nat} (hn : ∀ q, q ≤ own.length → (rS own q).2 < many) : rAt own many = own.length := by
  have : (List.range (own.length + 1)).find? (fun j => decide (many ≤ (rS own j).2)) = none := by
    rw [List.find?_eq_none]
    intro q hq
    have := hn q (by have := List.mem_range.1 hq; omega)
    simp; omega
  rw [rAt, this]
def rFill (own dat : List Int) (region : Int) (at_ : Nat) : Nat → List Int × List Int
  | 0 => (own, dat)
  | d + 1 => if at_ + d < (rFill own dat region at_ d).1.length then ((rFill own dat region at_ d).1.set (at_ + d) region, (rFill own dat region at_ d).2) else ((rFill own dat region at_ d).1 ++ [region], (rFill own dat region at_ d).2 ++ List.replicate 16 0)
theorem rFill_len (own dat : List Int) (region : Int) (at_ d : Nat) : (rFill own dat region at_ d).1.length ≤ own.length + d ∧ (rFill own dat region at_ d).2.length ≤ dat.length + 16 * d := by
  induction d with
  | zero => simp [rFill]
  | succ d ih =>
    unfold rFill
    split <;> simp <;> omega
def rTake (t : RSt) (region : Int) (many : Nat) : RSt := { t with own := (rFill t.own t.dat region (rAt t.own many) many).1, dat := (rFill t.own t.dat region (rAt t.own many) many).2 }
theorem rAt_le (own : List Int) (many : Nat) : rAt own many ≤ own.length := by
  unfold rAt
  split
  · rename_i j h
    rw [List.find?_range_eq_some] at h
    have h2 := List.mem_range.1 h.2.1
    have := rS_le own j
    omega
  · exact Nat.le_refl _

def RTPost (ρ : Ghost) (a : Nat) (t : RSt) (v0 v1 v2 v4 v5 v6 : Value) (v : Value) (w : World) (e : Ending) (w' : World) : Prop := ∃ ρ' u3 u7, e = .returned v ∧ RRepAt w' ρ' a t v0 v1 v2 u3 v4 v5 v6 u7 ∧ Step RTag w ρ w' ρ'
set_option maxRecDepth 100000 in
set_option maxHeartbeats 2000000 in
theorem RTake_at (w : World) (ρ : Ghost) (a : Nat) (t : RSt) {v0 v1 v2 v3 v4 v5 v6 v7 : Value} (H : RRepAt w ρ a t v0 v1 v2 v3 v4 v5 v6 v7) (n : Int) (many : Nat) (hm1 : 1 ≤ many) (hm2 : many ≤ 300) (hol : t.own.length ≤ 200000) (hdl : t.dat.length ≤ 4000000) :
    Calls Try.prog 39 #[.pointer (some ⟨a, 0, none⟩), .int .i64 n, .int .i64 many] w (RTPost ρ a (rTake t n many) v0 v1 v2 v4 v5 v6 (.int .i64 (rAt t.own many)) w) := by
  obtain ⟨A3, c3, rfl, hm31, hm32⟩ := H.o3.form
  have x3 := H.blk.cell (i := 3) rfl
  have ho3 := H.o3
  have HH : Hd (RRepAt w ρ a { t with own := (rFill t.own t.dat n (rAt t.own many) 0).1, dat := (rFill t.own t.dat n (rAt t.own many) 0).2 } v0 v1 v2 (.slice A3 t.own.length c3) v4 v5 v6 v7) := ⟨H⟩
  have hal := rAt_le t.own many
  generalize hAA : rAt t.own many = A at *
  have HA := Hd.mk hAA
  clear H hAA
  go_enter Try.func39, Try.ntmps39
  go_wp2
  go_loop [7, 8, 9] (fun va vr vp => ∃ j : Nat, vp = .int .i64 j ∧ va = .int .i64 (rS t.own j).1 ∧ vr = .int .i64 (rS t.own j).2 ∧ j ≤ t.own.length ∧ (∀ q, q < j → (rS t.own q).2 < many)) (fun _ _ v => t.own.length - (intOf v).toNat)
  case atStart => exact ⟨0, rfl, rfl, rfl, by omega, fun q hq => by omega⟩
  case round =>
    obtain ⟨j, rfl, rfl, rfl, hj, hno⟩ := hrel
    have hle := rS_le t.own j
    have HNO := Hd.mk hno
    clear hno
    by_cases hlt : j < t.own.length ∧ (rS t.own j).2 < many
    · obtain ⟨hlt, hlr⟩ := hlt
      obtain ⟨g3, c3', hv, _, _, _, hc3, _, _⟩ := ho3.some (by omega)
      cases hv
      have q3 := hc3 j (by omega)
      rw [ints_get hlt] at q3
      have HSUC : Hd (rS t.own (j + 1) = if t.own.getD j 0 = -1 then ((rS t.own j).1, (rS t.own j).2 + 1) else (j + 1, 0)) := ⟨rfl⟩
      have hlrI : ((rS t.own j).2 : Int) < many := by omega
      have HNO1 : Hd (∀ q, q < j + 1 → (rS t.own q).2 < many) := ⟨fun q hq => by
        rcases Nat.lt_succ_iff_lt_or_eq.1 hq with hq | rfl
        · exact HNO.out q hq
        · exact hlr⟩
      generalize t.own.getD j 0 = x at *
      generalize rS t.own j = z at *
      obtain ⟨za, zr⟩ := z
      dsimp only at *
      clear hc3 ho3 HH
      by_cases h0 : x = -1
      · have hb : (x == -1) = true := by simpa using h0
        have H0 := Hd.mk h0
        clear h0
        go_wp2
        go_round
        case rel =>
          refine ⟨j + 1, by go_num, ?_, ?_, by omega, HNO1.out⟩
          · rw [HSUC.out, if_pos H0.out]
          · rw [HSUC.out, if_pos H0.out]; go_num
        case measure => simp [intOf]; omega
      · have hb : (x == -1) = false := by simpa using h0
        have H0 := Hd.mk h0
        clear h0
        go_wp2
        go_round
        case rel =>
          refine ⟨j + 1, by go_num, ?_, ?_, by omega, HNO1.out⟩
          · rw [HSUC.out, if_neg H0.out]; go_num
          · rw [HSUC.out, if_neg H0.out]; rfl
        case measure => simp [intOf]; omega
    · by_cases hr : many ≤ (rS t.own j).2
      · have hz : (rS t.own j).1 = A := by rw [← HA.out, rAt_some hj hr HNO.out]
        have hrI : ¬ (((rS t.own j).2 : Int) < many) := by omega
        have hrN : ¬ ((rS t.own j).2 < many) := by omega
        rw [hz]
        generalize (rS t.own j).2 = zr at *
        clear hz ho3 hlt
        by_cases hjl : j < t.own.length
        all_goals
          go_wp2
          go_loopw [10] (fun v wr => ∃ (d : Nat) (u3 u7 : Value) (ρr : Ghost), d ≤ many ∧ v = .int .i64 ((A + d : Nat) : Int) ∧ RRepAt wr ρr a { t with own := (rFill t.own t.dat n A d).1, dat := (rFill t.own t.dat n A d).2 } v0 v1 v2 u3 v4 v5 v6 u7 ∧ Step RTag w ρ wr ρr) (fun v _ => A + many - (intOf v).toNat)
          case atStart => exact ⟨0, _, _, ρ, by omega, by simp, HH.out, Step.refl _ _ _⟩
          case round =>
            obtain ⟨d, u3, u7, ρr, hd, rfl, HR, hSr⟩ := hrel
            have HSR := Hd.mk hSr
            have HRR := Hd.mk HR
            have hfl := rFill_len t.own t.dat n A d
            obtain ⟨hf1, hf2⟩ := hfl
            by_cases hlt : d < many
            · obtain ⟨B3, d3, rfl, hb31, hb32⟩ := HR.o3.form
              have z3 := HR.blk.cell (i := 3) rfl
              have z3f := HR.blk.free 3
              have ho := HR.o3
              have HFS : Hd (rFill t.own t.dat n A (d + 1) = if A + d < (rFill t.own t.dat n A d).1.length then ((rFill t.own t.dat n A d).1.set (A + d) n, (rFill t.own t.dat n A d).2) else ((rFill t.own t.dat n A d).1 ++ [n], (rFill t.own t.dat n A d).2 ++ List.replicate 16 0)) := ⟨rfl⟩
              generalize rFill t.own t.dat n A d = F at *
              obtain ⟨fo, fd⟩ := F
              dsimp only at *
              generalize hx : A + d = x at *
              have HX := Hd.mk hx
              have hxb : x ≤ 200300 := by omega
              have hxm : (x : Int) < (A : Int) + many := by omega
              clear hx hSr HR
              by_cases hin : x < fo.length
              · obtain ⟨h3, e3, hv, hg3, _, _, hc3, hf3, hgl3⟩ := ho.some (by omega)
                cases hv
                have q3 := hc3 x (by omega)
                rw [ints_get hin] at q3
                have q3f := hf3 x
                have hset := ho.set x (.int .i64 n)
                rw [← ints_set] at hset
                have HSET := Hd.mk hset
                clear hset hc3 hf3 ho
                go_wp2
                go_roundw
                case rel =>
                  have hS3 : Step (· = (22, 3)) wr ρr (wr.setCell ⟨h3, x, none⟩ (.int .i64 n)) ρr := Step.setCell (T := fun x => x = ((22, 3) : Tag)) (Step.refl _ wr ρr) hg3 rfl _
                  have hu := HRR.out.upd3 hS3 (l := fo.set x n) HSET.out (by simp) rfl
                  refine ⟨d + 1, .slice (some ⟨h3, 0, none⟩) fo.length d3, u7, ρr, by omega, by have := HX.out; congr 1; omega, ?_, (HSR.out.trans (hS3.mono (by rintro t rfl; simp [RTag])))⟩
                  rw [HFS.out, if_pos hin]
                  exact hu
                case measure => have := HX.out; simp [intOf]; omega
              · have hge : fo.length ≤ x := by omega
                go_wp2_with (at_builtin; refine wpList_append_boxW rfl _ _ _ rfl 3 _ 1 8 Try.underlying28 info3 rfl (by decide) ρr (22, 3) (.slice B3 fo.length d3) fo.length _ [.int .i64 n] rfl ho 1 _ rfl (by simp) rfl (by simp [Value.oneCell']) (by unfold maxLen; omega) (by omega) ?z1)
                case z1 =>
                intro u1 w1 ρ1 hO1 hS1
                obtain ⟨g1, k1, rfl, _⟩ := hO1.some (by omega)
                have H1 := HRR.out.app3 hS1 hO1 (l := fo ++ [n]) (by simp) (by simp [ints])
                have hta := H1.tag
                have hS1' : Step RTag w ρ (w1.setCell ⟨a, 3, none⟩ (.slice (some ⟨g1, 0, none⟩) (fo.length + 1) k1)) ρ1 := (HSR.out.trans (hS1.mono (by rintro t rfl; simp [RTag]))).setCell hta (by simp [RTag]) _
                have hb1 := hS1.blk' HRR.out.blk HRR.out.tag (by simp)
                have y3 := hb1.cell (i := 3) rfl
                have y3f := hb1.free 3
                have H1' := Hd.mk H1
                have HS1 := Hd.mk hS1'
                clear z3 z3f ho hO1 hS1 hb1 hta H1 hS1'
                go_wp2
                generalize w1.setCell ⟨a, 3, none⟩ (.slice (some ⟨g1, 0, none⟩) (fo.length + 1) k1) = W1 at *
                go_loopw [11] (fun v wq => ∃ (k : Nat) (u7 : Value) (ρq : Ghost), k ≤ 16 ∧ v = .int .i64 (k : Int) ∧ RRepAt wq ρq a { t with own := fo ++ [n], dat := fd ++ List.replicate k 0 } v0 v1 v2 (.slice (some ⟨g1, 0, none⟩) (fo.length + 1) k1) v4 v5 v6 u7 ∧ Step RTag w ρ wq ρq) (fun v _ => 16 - (intOf v).toNat)
                case atStart => exact ⟨0, u7, ρ1, by omega, rfl, by simpa using H1'.out, HS1.out⟩
                case round =>
                  obtain ⟨k, u7', ρq, hk, rfl, HQ, hSq⟩ := hrel
                  have HSQ := Hd.mk hSq
                  have HQQ := Hd.mk HQ
                  by_cases hlk : k < 16
                  · obtain ⟨B7, d7, rfl, hb71, hb72⟩ := HQ.o7.form
                    have z7 := HQ.blk.cell (i := 7) rfl
                    have z7f := HQ.blk.free 7
                    have ho7 := HQ.o7
                    have hl7 : (fd ++ List.replicate k 0).length ≤ 5000000 := by simp; omega
                    dsimp only at z7 ho7 hb71
                    generalize hfk : fd ++ List.replicate k 0 = fk at *
                    have HFK := Hd.mk hfk
                    clear hfk hSq HQ
                    go_wp2_with (at_builtin; refine wpList_append_boxW rfl _ _ _ rfl 2 _ 1 8 Try.underlying29 info2 rfl (by decide) ρq (22, 7) (.slice B7 fk.length d7) fk.length _ [.int .i64 0] rfl ho7 1 _ rfl (by simp) rfl (by simp [Value.oneCell']) (by unfold maxLen; omega) (by omega) ?z1)
                    case z1 =>
                    intro u2 w2 ρ2 hO2 hS2
                    obtain ⟨g2, k2, rfl, _⟩ := hO2.some (by omega)
                    have H2 := HQQ.out.app7 hS2 hO2 (l := fk ++ [0]) (by simp) (by simp [ints])
                    have hta := H2.tag
                    have hS2' : Step RTag w ρ (w2.setCell ⟨a, 7, none⟩ (.slice (some ⟨g2, 0, none⟩) (fk.length + 1) k2)) ρ2 := (HSQ.out.trans (hS2.mono (by rintro t rfl; simp [RTag]))).setCell hta (by simp [RTag]) _
                    have hb2 := hS2.blk' HQQ.out.blk HQQ.out.tag (by simp)
                    have y7 := hb2.cell (i := 7) rfl
                    have y7f := hb2.free 7
                    have HH2 := Hd.mk H2
                    have HS2 := Hd.mk hS2'
                    clear z7 z7f ho7 hO2 hS2 hb2 hta H2 hS2'
                    go_wp2
                    go_roundw
                    case rel =>
                      refine ⟨k + 1, .slice (some ⟨g2, 0, none⟩) (fk.length + 1) k2, ρ2, by omega, by go_num, ?_, HS2.out⟩
                      have e : fd ++ List.replicate (k + 1) 0 = fk ++ [0] := by rw [← HFK.out, List.replicate_succ', List.append_assoc]
                      rw [e]
                      exact HH2.out
                    case measure => simp [intOf]; omega
                  · have hk16 : k = 16 := by omega
                    have HK := Hd.mk hk16
                    clear hk16 HQ hSq
                    go_wp2
                    go_roundw
                    case rel =>
                      refine ⟨d + 1, .slice (some ⟨g1, 0, none⟩) (fo.length + 1) k1, u7', ρq, by omega, by have := HX.out; congr 1; omega, ?_, HSQ.out⟩
                      rw [HFS.out, if_neg hin]
                      have h := HQQ.out
                      rw [HK.out] at h
                      exact h
                    case measure => have := HX.out; simp [intOf]; omega
            · have hdm : d = many := by omega
              have HDM := Hd.mk hdm
              have hge : ¬ (((A + d : Nat) : Int) < (A : Int) + many) := by omega
              have hge2 : ¬ ((A : Int) + (d : Int) < (A : Int) + many) := by omega
              clear hdm HR hSr
              go_wp2
              go_ret
              have hfin : RRepAt wr ρr a (rTake t n many) v0 v1 v2 u3 v4 v5 v6 u7 := by
                have h := HRR.out
                rw [HDM.out] at h
                rw [rTake, HA.out]
                exact h
              exact ⟨ρr, u3, u7, rfl, hfin, HSR.out⟩
      · have hjl : j = t.own.length := by
          rcases Nat.lt_or_ge j t.own.length with h | h
          · exact absurd ⟨h, by omega⟩ hlt
          · omega
        have hz : t.own.length = A := by
          rw [← HA.out, rAt_none]
          intro q hq
          rcases Nat.lt_or_eq_of_le hq with h | h
          · exact HNO.out q (by omega)
          · rw [h, ← hjl]; omega
        have hrN : (rS t.own j).2 < many := by omega
        have hrI : ((rS t.own j).2 : Int) < many := by omega
        generalize rS t.own j = z at *
        obtain ⟨za, zr⟩ := z
        dsimp only at *
        have HZ := Hd.mk hz
        clear hz ho3 hlt
        subst hjl
        go_wp2
        rw [HZ.out]
        go_loopw [10] (fun v wr => ∃ (d : Nat) (u3 u7 : Value) (ρr : Ghost), d ≤ many ∧ v = .int .i64 ((A + d : Nat) : Int) ∧ RRepAt wr ρr a { t with own := (rFill t.own t.dat n A d).1, dat := (rFill t.own t.dat n A d).2 } v0 v1 v2 u3 v4 v5 v6 u7 ∧ Step RTag w ρ wr ρr) (fun v _ => A + many - (intOf v).toNat)
        case atStart => exact ⟨0, _, _, ρ, by omega, by simp, HH.out, Step.refl _ _ _⟩
        case round =>
          obtain ⟨d, u3, u7, ρr, hd, rfl, HR, hSr⟩ := hrel
          have HSR := Hd.mk hSr
          have HRR := Hd.mk HR
          have hfl := rFill_len t.own t.dat n A d
          obtain ⟨hf1, hf2⟩ := hfl
          by_cases hlt : d < many
          · obtain ⟨B3, d3, rfl, hb31, hb32⟩ := HR.o3.form
            have z3 := HR.blk.cell (i := 3) rfl
            have z3f := HR.blk.free 3
            have ho := HR.o3
            have HFS : Hd (rFill t.own t.dat n A (d + 1) = if A + d < (rFill t.own t.dat n A d).1.length then ((rFill t.own t.dat n A d).1.set (A + d) n, (rFill t.own t.dat n A d).2) else ((rFill t.own t.dat n A d).1 ++ [n], (rFill t.own t.dat n A d).2 ++ List.replicate 16 0)) := ⟨rfl⟩
            generalize rFill t.own t.dat n A d = F at *
            obtain ⟨fo, fd⟩ := F
            dsimp only at *
            generalize hx : A + d = x at *
            have HX := Hd.mk hx
            have hxb : x ≤ 200300 := by omega
            have hxm : (x : Int) < (A : Int) + many := by omega
            clear hx hSr HR
            by_cases hin : x < fo.length
            · obtain ⟨h3, e3, hv, hg3, _, _, hc3, hf3, hgl3⟩ := ho.some (by omega)
              cases hv
              have q3 := hc3 x (by omega)
              rw [ints_get hin] at q3
              have q3f := hf3 x
              have hset := ho.set x (.int .i64 n)
              rw [← ints_set] at hset
              have HSET := Hd.mk hset
              clear hset hc3 hf3 ho
              go_wp2
              go_roundw
              case rel =>
                have hS3 : Step (· = (22, 3)) wr ρr (wr.setCell ⟨h3, x, none⟩ (.int .i64 n)) ρr := Step.setCell (T := fun x => x = ((22, 3) : Tag)) (Step.refl _ wr ρr) hg3 rfl _
                have hu := HRR.out.upd3 hS3 (l := fo.set x n) HSET.out (by simp) rfl
                refine ⟨d + 1, .slice (some ⟨h3, 0, none⟩) fo.length d3, u7, ρr, by omega, by have := HX.out; congr 1; omega, ?_, (HSR.out.trans (hS3.mono (by rintro t rfl; simp [RTag])))⟩
                rw [HFS.out, if_pos hin]
                exact hu
              case measure => have := HX.out; simp [intOf]; omega
            · have hge : fo.length ≤ x := by omega
              go_wp2_with (at_builtin; refine wpList_append_boxW rfl _ _ _ rfl 3 _ 1 8 Try.underlying28 info3 rfl (by decide) ρr (22, 3) (.slice B3 fo.length d3) fo.length _ [.int .i64 n] rfl ho 1 _ rfl (by simp) rfl (by simp [Value.oneCell']) (by unfold maxLen; omega) (by omega) ?z1)
              case z1 =>
              intro u1 w1 ρ1 hO1 hS1
              obtain ⟨g1, k1, rfl, _⟩ := hO1.some (by omega)
              have H1 := HRR.out.app3 hS1 hO1 (l := fo ++ [n]) (by simp) (by simp [ints])
              have hta := H1.tag
              have hS1' : Step RTag w ρ (w1.setCell ⟨a, 3, none⟩ (.slice (some ⟨g1, 0, none⟩) (fo.length + 1) k1)) ρ1 := (HSR.out.trans (hS1.mono (by rintro t rfl; simp [RTag]))).setCell hta (by simp [RTag]) _
              have hb1 := hS1.blk' HRR.out.blk HRR.out.tag (by simp)
              have y3 := hb1.cell (i := 3) rfl
              have y3f := hb1.free 3
              have H1' := Hd.mk H1
              have HS1 := Hd.mk hS1'
              clear z3 z3f ho hO1 hS1 hb1 hta H1 hS1'
              go_wp2
              generalize w1.setCell ⟨a, 3, none⟩ (.slice (some ⟨g1, 0, none⟩) (fo.length + 1) k1) = W1 at *
              go_loopw [11] (fun v wq => ∃ (k : Nat) (u7 : Value) (ρq : Ghost), k ≤ 16 ∧ v = .int .i64 (k : Int) ∧ RRepAt wq ρq a { t with own := fo ++ [n], dat := fd ++ List.replicate k 0 } v0 v1 v2 (.slice (some ⟨g1, 0, none⟩) (fo.length + 1) k1) v4 v5 v6 u7 ∧ Step RTag w ρ wq ρq) (fun v _ => 16 - (intOf v).toNat)
              case atStart => exact ⟨0, u7, ρ1, by omega, rfl, by simpa using H1'.out, HS1.out⟩
              case round =>
                obtain ⟨k, u7', ρq, hk, rfl, HQ, hSq⟩ := hrel
                have HSQ := Hd.mk hSq
                have HQQ := Hd.mk HQ
                by_cases hlk : k < 16
                · obtain ⟨B7, d7, rfl, hb71, hb72⟩ := HQ.o7.form
                  have z7 := HQ.blk.cell (i := 7) rfl
                  have z7f := HQ.blk.free 7
                  have ho7 := HQ.o7
                  have hl7 : (fd ++ List.replicate k 0).length ≤ 5000000 := by simp; omega
                  dsimp only at z7 ho7 hb71
                  generalize hfk : fd ++ List.replicate k 0 = fk at *
                  have HFK := Hd.mk hfk
                  clear hfk hSq HQ
                  go_wp2_with (at_builtin; refine wpList_append_boxW rfl _ _ _ rfl 2 _ 1 8 Try.underlying29 info2 rfl (by decide) ρq (22, 7) (.slice B7 fk.length d7) fk.length _ [.int .i64 0] rfl ho7 1 _ rfl (by simp) rfl (by simp [Value.oneCell']) (by unfold maxLen; omega) (by omega) ?z1)
                  case z1 =>
                  intro u2 w2 ρ2 hO2 hS2
                  obtain ⟨g2, k2, rfl, _⟩ := hO2.some (by omega)
                  have H2 := HQQ.out.app7 hS2 hO2 (l := fk ++ [0]) (by simp) (by simp [ints])
                  have hta := H2.tag
                  have hS2' : Step RTag w ρ (w2.setCell ⟨a, 7, none⟩ (.slice (some ⟨g2, 0, none⟩) (fk.length + 1) k2)) ρ2 := (HSQ.out.trans (hS2.mono (by rintro t rfl; simp [RTag]))).setCell hta (by simp [RTag]) _
                  have hb2 := hS2.blk' HQQ.out.blk HQQ.out.tag (by simp)
                  have y7 := hb2.cell (i := 7) rfl
                  have y7f := hb2.free 7
                  have HH2 := Hd.mk H2
                  have HS2 := Hd.mk hS2'
                  clear z7 z7f ho7 hO2 hS2 hb2 hta H2 hS2'
                  go_wp2
                  go_roundw
                  case rel =>
                    refine ⟨k + 1, .slice (some ⟨g2, 0, none⟩) (fk.length + 1) k2, ρ2, by omega, by go_num, ?_, HS2.out⟩
                    have e : fd ++ List.replicate (k + 1) 0 = fk ++ [0] := by rw [← HFK.out, List.replicate_succ', List.append_assoc]
                    rw [e]
                    exact HH2.out
                  case measure => simp [intOf]; omega
                · have hk16 : k = 16 := by omega
                  have HK := Hd.mk hk16
                  clear hk16 HQ hSq
                  go_wp2
                  go_roundw
                  case rel =>
                    refine ⟨d + 1, .slice (some ⟨g1, 0, none⟩) (fo.length + 1) k1, u7', ρq, by omega, by have := HX.out; congr 1; omega, ?_, HSQ.out⟩
                    rw [HFS.out, if_neg hin]
                    have h := HQQ.out
                    rw [HK.out] at h
                    exact h
                  case measure => have := HX.out; simp [intOf]; omega
          · have hdm : d = many := by omega
            have HDM := Hd.mk hdm
            have hge : ¬ (((A + d : Nat) : Int) < (A : Int) + many) := by omega
            have hge2 : ¬ ((A : Int) + (d : Int) < (A : Int) + many) := by omega
            clear hdm HR hSr
            go_wp2
            go_ret
            have hfin : RRepAt wr ρr a (rTake t n many) v0 v1 v2 u3 v4 v5 v6 u7 := by
              have h := HRR.out
              rw [HDM.out] at h
              rw [rTake, HA.out]
              exact h
            exact ⟨ρr, u3, u7, rfl, hfin, HSR.out⟩

end Go.Proofs.Ytgejmgomliadmaa
