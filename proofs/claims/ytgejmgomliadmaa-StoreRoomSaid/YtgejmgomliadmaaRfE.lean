/- The reference store in memory: Alloc. -/
import Derived.Test.YtgejmgomliadmaaRfD
import Derived.Deep.RegionHeld3
set_option linter.unusedVariables false
namespace Go.Proofs.Ytgejmgomliadmaa
open Go Go.RowKit

theorem rFill_len2 {own dat : List Int} {at_ : Nat} (h : at_ ≤ own.length) (n : Int) (d : Nat) : own.length ≤ (rFill own dat n at_ d).1.length ∧ at_ + d ≤ (rFill own dat n at_ d).1.length ∧ (rFill own dat n at_ d).2.length + 16 * own.length = dat.length + 16 * (rFill own dat n at_ d).1.length := by
  induction d with
  | zero => simp [rFill]; omega
  | succ d ih =>
    unfold rFill
    split <;> simp <;> omega
theorem set_splice {l : List Int} {p : Nat} (v : Int) (h : p < l.length) : l.set p v = splice l p [v] := by
  rw [List.set_eq_take_append_cons_drop, if_pos h]; simp [splice]
theorem zeroAt_succ {l : List Int} {a j : Nat} (h : a + j < l.length) : (zeroAt l a j).set (a + j) 0 = zeroAt l a (j + 1) := by
  rw [set_splice _ (by rw [zeroAt_length (by omega)]; omega)]
  exact zeroAt_next (k := 1) (by omega)
/-- The cell is written down. -/
def rFin (t : RSt) (A k i : Nat) : RSt := { t with beg := t.beg ++ [(A : Int)], siz := t.siz ++ [(k : Int)], reg := t.reg ++ [(i : Int)], dat := zeroAt t.dat A k }
/-- A cell of at most a page in the region's page. -/
def rIn (t : RSt) (i k : Nat) (f : Int) : RSt := { t with fil := t.fil.set i (f + k) }
/-- The region has a new page. -/
def rNew (t : RSt) (i : Nat) : RSt := { rTake t i 1 with cur := t.cur.set i (rAt t.own 1), fil := t.fil.set i 0 }
theorem rNew_facts (t : RSt) (i : Nat) (h1 : t.cur.length = t.op.length) (h2 : t.fil.length = t.op.length) (hi : i < t.op.length) (hd : t.dat.length = t.own.length * 16) (ho : t.own.length ≤ 200000) :
    (rNew t i).cur.length = t.cur.length ∧ (rNew t i).fil.length = t.fil.length ∧ (rNew t i).cur.getD i 0 = (rAt t.own 1 : Nat) ∧ (rNew t i).fil.getD i 0 = 0 ∧ (rNew t i).own.length ≤ 200300 ∧ (rNew t i).beg.length = t.beg.length ∧
      (rNew t i).dat.length = (rNew t i).own.length * 16 ∧ (rAt t.own 1 : Int) < (rNew t i).own.length ∧ (rNew t i).siz.length = t.siz.length ∧ (rNew t i).reg.length = t.reg.length := by
  have hal := rAt_le t.own 1
  have hfl := rFill_len2 (own := t.own) (dat := t.dat) hal i 1
  have hfl3 := rFill_len t.own t.dat i (rAt t.own 1) 1
  refine ⟨by simp [rNew], by simp [rNew], ?_, ?_, ?_, rfl, ?_, ?_, rfl, rfl⟩
  · simp [rNew, List.getD_eq_getElem?_getD, h1, hi]
  · simp [rNew, List.getD_eq_getElem?_getD, h2, hi]
  · simp only [rNew, rTake]; omega
  · simp only [rNew, rTake]; omega
  · simp only [rNew, rTake]; omega
def RAPost (ρ : Ghost) (a : Nat) (t : RSt) (A : Nat) (w : World) (e : Ending) (w' : World) : Prop := ∃ ρ', e = .returned (.tuple #[.int .i64 A, .int .i64 0]) ∧ RRep w' ρ' a t ∧ Step RTag w ρ w' ρ'
structure RRoom (t : RSt) : Prop where
  cur : ∀ x ∈ t.cur, x < t.own.length
  fil : ∀ x ∈ t.fil, 0 ≤ x ∧ x ≤ 16

theorem RAlloc_closed (w : World) (ρ : Ghost) (a : Nat) (t : RSt) (H : RRep w ρ a t) (n k : Int) (h : rOpen t n = false) :
    Calls Try.prog 16 #[.pointer (some ⟨a, 0, none⟩), .int .i64 n, .int .i64 k] w fun e w' => e = .returned (.tuple #[.int .i64 0, .int .i64 70]) ∧ w = w' := by
  have HC0 := isOpen_any w ρ a t H n
  rw [h] at HC0
  have HC := Hd.mk HC0
  clear H h HC0
  go_enter Try.func16, Try.ntmps16
  go_wp2_with fail
  refine HC.out.mono ?_
  rintro e w' ⟨rfl, rfl⟩
  go_wp2
  go_ret2
  exact ⟨rfl, rfl⟩
theorem RAlloc_size (w : World) (ρ : Ghost) (a : Nat) (t : RSt) (H : RRep w ρ a t) (n k : Int) (h : rOpen t n = true) (hk : k < 1 ∨ 4097 < k) :
    Calls Try.prog 16 #[.pointer (some ⟨a, 0, none⟩), .int .i64 n, .int .i64 k] w fun e w' => e = .returned (.tuple #[.int .i64 0, .int .i64 73]) ∧ w = w' := by
  have HC0 := isOpen_any w ρ a t H n
  rw [h] at HC0
  have HC := Hd.mk HC0
  clear H h HC0
  by_cases h1 : k < 1
  · go_enter Try.func16, Try.ntmps16
    go_wp2_with fail
    refine HC.out.mono ?_
    rintro e w' ⟨rfl, rfl⟩
    go_wp2
    go_ret2
    exact ⟨rfl, rfl⟩
  · have h2 : 4097 < k := by omega
    go_enter Try.func16, Try.ntmps16
    go_wp2_with fail
    refine HC.out.mono ?_
    rintro e w' ⟨rfl, rfl⟩
    go_wp2
    go_ret2
    exact ⟨rfl, rfl⟩
set_option maxRecDepth 100000 in
set_option maxHeartbeats 2000000 in
theorem RAlloc_large (w : World) (ρ : Ghost) (a : Nat) (t : RSt) (H : RRep w ρ a t) (hF : RFine t) (hM : RRoom t) (i k : Nat) (h : rOpen t i = true) (hk1 : 1 ≤ k) (hk : 16 < k) (hk2 : k ≤ 4097) :
    Calls Try.prog 16 #[.pointer (some ⟨a, 0, none⟩), .int .i64 i, .int .i64 k] w (RAPost ρ a (rFin (rTake t i ((k + 15) / 16)) (16 * rAt t.own ((k + 15) / 16)) k i) (16 * rAt t.own ((k + 15) / 16)) w) := by
  have HC0 := isOpen_any w ρ a t H i
  rw [h] at HC0
  have HC := Hd.mk HC0
  have hF1 := hF.beg
  have hF2 := hF.own
  have hF3 := hF.dat
  have hF4 := hF.siz
  have hF5 := hF.reg
  obtain ⟨v0, v1, v2, v3, v4, v5, v6, v7, H⟩ := H
  clear h HC0
  generalize hmany : (k + 15) / 16 = many at *
  have hm2 : many ≤ 300 := by omega
  have hm1 : 1 ≤ many := by omega
  have HCT := Hd.mk (RTake_at w ρ a t H i many hm1 hm2 hF2 (by omega))
  have hq2 : (((k : Int) + 16) - 1).tdiv 16 = many := by rw [Int.tdiv_eq_ediv_of_nonneg (by omega)]; omega
  have hq : IntKind.i64.wrap ((((k : Int) + 16) - 1).tdiv 16) = many := by rw [hq2]; exact IntWalk.i64_in _ (by omega)
  have hal := rAt_le t.own many
  have hfl := rFill_len2 (own := t.own) (dat := t.dat) hal i many
  have hfl3 := rFill_len t.own t.dat i (rAt t.own many) many
  have hT1 : (rTake t i many).dat.length ≤ 5000000 ∧ 16 * rAt t.own many + k ≤ (rTake t i many).dat.length ∧ (rTake t i many).beg.length ≤ 1000 ∧ (rTake t i many).siz.length ≤ 1000 ∧ (rTake t i many).reg.length ≤ 1000 := by
    unfold rTake; dsimp only; omega
  generalize rTake t i many = T at *
  generalize rAt t.own many = A0 at *
  obtain ⟨hdl, hAk, hbl, hsl, hrl⟩ := hT1
  clear hfl hfl3 hal hF1 hF2 hF3 hF4 hF5 hF hM H hmany
  go_enter Try.func16, Try.ntmps16
  go_wp2_with fail
  refine HC.out.mono ?_
  rintro e w' ⟨rfl, rfl⟩
  go_wp2_with fail
  refine HCT.out.mono ?_
  rintro e W ⟨ρ1, u3, u7, rfl, H1, HS1⟩
  generalize hA : 16 * A0 = A at *
  have hA1 : IntKind.i64.wrap (16 * (A0 : Int)) = A := by rw [IntWalk.i64_in _ (by omega)]; omega
  have hA2 : 16 * (A0 : Int) = A := by omega
  have hTd : 1 ≤ T.dat.length := by omega
  obtain ⟨h7, d7, rfl, hg7, _, _, _, _, _⟩ := H1.o7.some (by omega)
  obtain ⟨A4, c4, rfl, _, _⟩ := H1.o4.form
  obtain ⟨A5, c5, rfl, _, _⟩ := H1.o5.form
  obtain ⟨A6, c6, rfl, _, _⟩ := H1.o6.form
  have HH1 := Hd.mk H1
  have HHS1 := Hd.mk HS1
  clear H1 HS1
  go_wp2_with fail
  go_loopw [9] (fun v wr => ∃ j : Nat, v = .int .i64 j ∧ j ≤ k ∧ RRepAt wr ρ1 a { T with dat := zeroAt T.dat A j } v0 v1 v2 u3 (.slice A4 T.beg.length c4) (.slice A5 T.siz.length c5) (.slice A6 T.reg.length c6) (.slice (some ⟨h7, 0, none⟩) T.dat.length d7) ∧ Step RTag w ρ wr ρ1) (fun v _ => k - (intOf v).toNat)
  case atStart =>
    refine ⟨0, by simp, by omega, ?_, HHS1.out⟩
    have e : zeroAt T.dat A 0 = T.dat := splice_nil _ _
    rw [e]
    exact HH1.out
  case round =>
    obtain ⟨j, rfl, hj, HR, HSR⟩ := hrel
    have HHR := Hd.mk HR
    have HHSR := Hd.mk HSR
    have hzl : (zeroAt T.dat A j).length = T.dat.length := zeroAt_length (by omega)
    by_cases hlt : j < k
    · have x7 := HR.blk.cell (i := 7) rfl
      have hO7 : OwnSl wr ρ1 (22, 7) 2 1 (.slice (some ⟨h7, 0, none⟩) T.dat.length d7) T.dat.length (ints (zeroAt T.dat A j)) := by have := HR.o7; simp only [hzl] at this; exact this
      obtain ⟨h7', d7', hv, hg7', _, _, hc7, hf7, _⟩ := hO7.some (by omega)
      cases hv
      generalize hx : A + j = x at *
      have q7 := hc7 x (by omega)
      rw [ints_get (by omega)] at q7
      have q7f := hf7 x
      have hw : IntKind.i64.wrap ((A : Int) + (j : Int)) = x := by rw [← hx]; rw [IntWalk.i64_in _ (by omega)]; omega
      have hS7 : Step (· = (22, 7)) wr ρ1 (wr.setCell ⟨h7, x, none⟩ (.int .i64 0)) ρ1 := Step.setCell (T := fun x => x = ((22, 7) : Tag)) (Step.refl _ wr ρ1) hg7' rfl _
      have hset := hO7.set x (.int .i64 0)
      rw [← ints_set] at hset
      have HFIN := Hd.mk (HR.upd7 hS7 hset (l := (zeroAt T.dat A j).set x 0) (by simp [hzl]) rfl)
      have HST := Hd.mk (HSR.trans (hS7.mono (by rintro t rfl; simp [RTag])))
      have HX := Hd.mk hx
      have hxl : x < T.dat.length := by omega
      generalize (zeroAt T.dat A j).getD x 0 = y at *
      clear hx hS7 hset HR HSR hc7 hf7 hzl hO7
      go_wp2
      go_roundw
      case rel =>
        refine ⟨j + 1, by go_num, by omega, ?_, HST.out⟩
        have h := HFIN.out
        rw [← HX.out, zeroAt_succ (by have := HX.out; omega)] at h
        rw [← HX.out]
        exact h
      case measure => simp [intOf]; omega
    · have hjk : j = k := by omega
      subst hjk
      have y4 := HR.blk.cell (i := 4) rfl
      have y4f := HR.blk.free 4
      have ho4 := HR.o4
      clear HR HSR hzl
      go_wp2_with (at_builtin; refine wpList_append_boxW rfl _ _ _ rfl 3 _ 1 8 Try.underlying28 info3 rfl (by decide) ρ1 (22, 4) (.slice A4 T.beg.length c4) T.beg.length _ [.int .i64 A] rfl ho4 1 _ rfl (by simp) rfl (by simp [Value.oneCell']) (by unfold maxLen; omega) (by omega) ?z1)
      case z1 =>
      intro r1 w1 ρ4 hO1 hS1
      obtain ⟨g1, d1, rfl, _⟩ := hO1.some (by omega)
      have H2 := HHR.out.app4 hS1 hO1 (l := T.beg ++ [(A : Int)]) (by simp) (by simp [ints])
      have hS1' : Step RTag w ρ (w1.setCell ⟨a, 4, none⟩ (.slice (some ⟨g1, 0, none⟩) (T.beg.length + 1) d1)) ρ4 := (HHSR.out.trans (hS1.mono (by rintro t rfl; simp [RTag]))).setCell H2.tag (by simp [RTag]) _
      have hb1 := hS1.blk' HHR.out.blk HHR.out.tag (by simp)
      have z4 := hb1.cell (i := 4) rfl
      have z4f := hb1.free 4
      have z5 := hb1.cell (i := 5) rfl
      have z5f := hb1.free 5
      have ho5 := H2.o5
      have HH2 := Hd.mk H2
      have HS1 := Hd.mk hS1'
      clear y4 y4f ho4 hO1 hS1 hb1 H2 hS1'
      go_wp2_with (at_builtin; refine wpList_append_boxW rfl _ _ _ rfl 3 _ 1 8 Try.underlying28 info3 rfl (by decide) ρ4 (22, 5) (.slice A5 T.siz.length c5) T.siz.length _ [.int .i64 j] rfl ho5 1 _ rfl (by simp) rfl (by simp [Value.oneCell']) (by unfold maxLen; omega) (by omega) ?z2)
      case z2 =>
      intro r2 w2 ρ5 hO2 hS2
      obtain ⟨g2, d2, rfl, _⟩ := hO2.some (by omega)
      have H3 := HH2.out.app5 hS2 hO2 (l := T.siz ++ [(j : Int)]) (by simp) (by simp [ints])
      have hS2' : Step RTag w ρ (w2.setCell ⟨a, 5, none⟩ (.slice (some ⟨g2, 0, none⟩) (T.siz.length + 1) d2)) ρ5 := (HS1.out.trans (hS2.mono (by rintro t rfl; simp [RTag]))).setCell H3.tag (by simp [RTag]) _
      have hb2 := hS2.blk' HH2.out.blk HH2.out.tag (by simp)
      have z5 := hb2.cell (i := 5) rfl
      have z5f := hb2.free 5
      have z6 := hb2.cell (i := 6) rfl
      have z6f := hb2.free 6
      have ho6 := H3.o6
      have HH3 := Hd.mk H3
      have HS2 := Hd.mk hS2'
      clear z4 z4f ho5 hO2 hS2 hb2 H3 hS2'
      go_wp2_with (at_builtin; refine wpList_append_boxW rfl _ _ _ rfl 3 _ 1 8 Try.underlying28 info3 rfl (by decide) ρ5 (22, 6) (.slice A6 T.reg.length c6) T.reg.length _ [.int .i64 i] rfl ho6 1 _ rfl (by simp) rfl (by simp [Value.oneCell']) (by unfold maxLen; omega) (by omega) ?z3)
      case z3 =>
      intro r3 w3 ρ6 hO3 hS3
      obtain ⟨g3, d3, rfl, _⟩ := hO3.some (by omega)
      have H4 := HH3.out.app6 hS3 hO3 (l := T.reg ++ [(i : Int)]) (by simp) (by simp [ints])
      have hS3' : Step RTag w ρ (w3.setCell ⟨a, 6, none⟩ (.slice (some ⟨g3, 0, none⟩) (T.reg.length + 1) d3)) ρ6 := (HS2.out.trans (hS3.mono (by rintro t rfl; simp [RTag]))).setCell H4.tag (by simp [RTag]) _
      have hb3 := hS3.blk' HH3.out.blk HH3.out.tag (by simp)
      have z6 := hb3.cell (i := 6) rfl
      have z6f := hb3.free 6
      have HH4 := Hd.mk H4
      have HS3 := Hd.mk hS3'
      clear z5 z5f ho6 hO3 hS3 hb3 H4 hS3'
      go_wp2
      go_ret2
      exact ⟨ρ6, rfl, ⟨_, _, _, _, _, _, _, _, HH4.out⟩, HS3.out⟩
set_option maxRecDepth 100000 in
set_option maxHeartbeats 2000000 in
theorem RAlloc_room (w : World) (ρ : Ghost) (a : Nat) (t : RSt) (H : RRep w ρ a t) (hF : RFine t) (hM : RRoom t) (i k : Nat) (h : rOpen t i = true) (hk1 : 1 ≤ k) (hk : k ≤ 16) (c f : Nat) (hcur : t.cur.getD i 0 = c) (hfil : t.fil.getD i 0 = f) (hroom : f + k ≤ 16) :
    Calls Try.prog 16 #[.pointer (some ⟨a, 0, none⟩), .int .i64 i, .int .i64 k] w (RAPost ρ a (rFin (rIn t i k f) (16 * c + f) k i) (16 * c + f) w) := by
  have HC0 := isOpen_any w ρ a t H i
  rw [h] at HC0
  have HC := Hd.mk HC0
  have hF1 := hF.beg
  have hF2 := hF.own
  have hF3 := hF.dat
  have hF4 := hF.siz
  have hF5 := hF.reg
  obtain ⟨v0, v1, v2, v3, v4, v5, v6, v7, H⟩ := H
  obtain ⟨i', hi', hil, _⟩ := rOpen_some h
  have hii : i = i' := by omega
  subst hii
  have hF6 := hF.cur
  have hF7 := hF.fil
  have hcl : i < t.cur.length := by omega
  have hfl : i < t.fil.length := by omega
  have hcb := all_getD hM.cur hcl
  rw [hcur] at hcb
  have hqd : t.dat.length = t.own.length * 16 := hF3
  clear h HC0 hM hF hi' hF3
  obtain ⟨g1, c1, rfl, -⟩ := H.o1.some (by omega)
  obtain ⟨g2, c2, rfl, -⟩ := H.o2.some (by omega)
  have e0 : IntKind.i64.wrap ((f : Int) + k) = f + k := IntWalk.i64_in _ (by omega)
  have hrm : (f : Int) + k ≤ 16 := by omega
  obtain ⟨_, _, hv, hg1, _, _, hc1, hf1, _⟩ := H.o1.some (by omega)
  cases hv
  obtain ⟨_, _, hv, hg2, _, _, hc2, hf2, _⟩ := H.o2.some (by omega)
  cases hv
  have X1 := H.blk.cell (i := 1) rfl
  have X2 := H.blk.cell (i := 2) rfl
  have q1 := hc1 i (by omega)
  have q2 := hc2 i (by omega)
  rw [ints_get hcl, hcur] at q1
  rw [ints_get hfl, hfil] at q2
  have hQ2 := hf2 i
  clear hc1 hc2 hf1 hf2 hg1
  have H1 := H
  have HS1 : Step RTag w ρ w ρ := Step.refl _ _ _
  clear H hg2
  have HA := Hd.mk H1
  have HB := Hd.mk HS1
  clear H1 HS1
  go_enter Try.func16, Try.ntmps16
  go_wp2_with fail
  refine HC.out.mono ?_
  rintro e w' ⟨rfl, rfl⟩
  go_wp2_with fail
  have H1 := HA.out
  have HS1 := HB.out
  clear X1 X2 q1 q2 hQ2 HA HB
  have e1 : IntKind.i64.wrap (16 * (c : Int)) = 16 * c := IntWalk.i64_in _ (by omega)
  have e2 : IntKind.i64.wrap (16 * (c : Int) + f) = 16 * c + f := IntWalk.i64_in _ (by omega)
  have e3 : IntKind.i64.wrap ((f : Int) + k) = f + k := IntWalk.i64_in _ (by omega)
  obtain ⟨_, _, hv, hg1, _, _, hc1, hf1, _⟩ := H1.o1.some (by omega)
  cases hv
  obtain ⟨_, _, hv, hg2, _, _, hc2, hf2, _⟩ := H1.o2.some (by omega)
  cases hv
  have X1 := H1.blk.cell (i := 1) rfl
  have X2 := H1.blk.cell (i := 2) rfl
  have q1 := hc1 i (by omega)
  have q2 := hc2 i (by omega)
  rw [ints_get hcl, hcur] at q1
  rw [ints_get hfl, hfil] at q2
  have hQ2 := hf2 i
  clear hc1 hc2 hf1 hf2 hg1
  have HA := Hd.mk H1
  have HB := Hd.mk HS1
  clear H1 HS1 hg2
  go_quiet (fail)
  clear X1 X2 q1 q2 hQ2
  have H1 := HA.out.step (T := fun _ => False) ((Step.refl _ w ρ).drewN nq) (by simp)
  have HS1 := HB.out.drewN nq
  generalize w.drewN nq = W1 at *
  obtain ⟨_, _, hv, hg1, _, _, hc1, hf1, _⟩ := H1.o1.some (by omega)
  cases hv
  obtain ⟨_, _, hv, hg2, _, _, hc2, hf2, _⟩ := H1.o2.some (by omega)
  cases hv
  have X1 := H1.blk.cell (i := 1) rfl
  have X2 := H1.blk.cell (i := 2) rfl
  have q1 := hc1 i (by omega)
  have q2 := hc2 i (by omega)
  rw [ints_get hcl, hcur] at q1
  rw [ints_get hfl, hfil] at q2
  have hQ2 := hf2 i
  clear hc1 hc2 hf1 hf2 hg1
  have HA := Hd.mk H1
  have HB := Hd.mk HS1
  clear H1 HS1 hg2
  go_wp2_with fail
  go_still_tail 15, (by kernel_rfl)
  clear X1 X2 q1 q2 hQ2 e1 e2 e3
  change wpList _ _ _ _ _ W1.drew
  have H1 := HA.out.step (T := fun _ => False) (Step.refl _ W1 ρ).drew (by simp)
  have HS1 := HB.out.drew
  generalize W1.drew = W2 at *
  obtain ⟨_, _, hv, hg1, _, _, hc1, hf1, _⟩ := H1.o1.some (by omega)
  cases hv
  obtain ⟨_, _, hv, hg2, _, _, hc2, hf2, _⟩ := H1.o2.some (by omega)
  cases hv
  have X1 := H1.blk.cell (i := 1) rfl
  have X2 := H1.blk.cell (i := 2) rfl
  have q1 := hc1 i (by omega)
  have q2 := hc2 i (by omega)
  rw [ints_get hcl, hcur] at q1
  rw [ints_get hfl, hfil] at q2
  have hQ2 := hf2 i
  clear hc1 hc2 hf1 hf2 hg1

  have hS2 : Step (· = (22, 2)) W2 ρ (W2.setCell ⟨g2, i, none⟩ (.int .i64 (f + k))) ρ := Step.setCell (T := fun x => x = ((22, 2) : Tag)) (Step.refl _ W2 ρ) hg2 rfl _
  have hset := H1.o2.set i (.int .i64 (f + k))
  rw [← ints_set] at hset
  have H2 := H1.upd2 hS2 hset (l := t.fil.set i ((f : Int) + k)) (by simp) rfl
  have HFIN := Hd.mk H2
  have HST := Hd.mk (HS1.trans (hS2.mono (by rintro t rfl; simp [RTag])))
  clear hS2 hset H2 H1 HS1 hg2
  go_wp2_with fail
  generalize W2.setCell ⟨g2, i, none⟩ (.int .i64 (f + k)) = W3 at *
  have hT1 : (rIn t i k f).dat.length ≤ 5000000 ∧ 16 * c + f + k ≤ (rIn t i k f).dat.length ∧ (rIn t i k f).beg.length ≤ 1000 ∧ (rIn t i k f).siz.length ≤ 1000 ∧ (rIn t i k f).reg.length ≤ 1000 := by
    unfold rIn; dsimp only; omega
  obtain ⟨u0, u1, u2, u3, u4, u5, u6, u7, H1⟩ : RRep W3 ρ a (rIn t i k f) := ⟨_, _, _, _, _, _, _, _, HFIN.out⟩
  have HS1 := HST.out
  generalize rIn t i k f = T at *
  obtain ⟨hdl, hAk, hbl, hsl, hrl⟩ := hT1
  generalize hA : 16 * c + f = A at *
  have hA2 : 16 * (c : Int) + f = A := by omega
  try simp only [hA2]
  clear X1 X2 q1 q2 hQ2 HFIN HST HA HB hcur hfil hcl hfl hqd

  have hTd : 1 ≤ T.dat.length := by omega
  obtain ⟨h7, d7, rfl, hg7, _, _, _, _, _⟩ := H1.o7.some (by omega)
  obtain ⟨A4, c4, rfl, _, _⟩ := H1.o4.form
  obtain ⟨A5, c5, rfl, _, _⟩ := H1.o5.form
  obtain ⟨A6, c6, rfl, _, _⟩ := H1.o6.form
  have HH1 := Hd.mk H1
  have HHS1 := Hd.mk HS1
  clear H1 HS1
  go_wp2_with fail
  go_loopw [9] (fun v wr => ∃ j : Nat, v = .int .i64 j ∧ j ≤ k ∧ RRepAt wr ρ a { T with dat := zeroAt T.dat A j } u0 u1 u2 u3 (.slice A4 T.beg.length c4) (.slice A5 T.siz.length c5) (.slice A6 T.reg.length c6) (.slice (some ⟨h7, 0, none⟩) T.dat.length d7) ∧ Step RTag w ρ wr ρ) (fun v _ => k - (intOf v).toNat)
  case atStart =>
    refine ⟨0, by simp, by omega, ?_, HHS1.out⟩
    have e : zeroAt T.dat A 0 = T.dat := splice_nil _ _
    rw [e]
    exact HH1.out
  case round =>
    obtain ⟨j, rfl, hj, HR, HSR⟩ := hrel
    have HHR := Hd.mk HR
    have HHSR := Hd.mk HSR
    have hzl : (zeroAt T.dat A j).length = T.dat.length := zeroAt_length (by omega)
    by_cases hlt : j < k
    · have x7 := HR.blk.cell (i := 7) rfl
      have hO7 : OwnSl wr ρ (22, 7) 2 1 (.slice (some ⟨h7, 0, none⟩) T.dat.length d7) T.dat.length (ints (zeroAt T.dat A j)) := by have := HR.o7; simp only [hzl] at this; exact this
      obtain ⟨h7', d7', hv, hg7', _, _, hc7, hf7, _⟩ := hO7.some (by omega)
      cases hv
      generalize hx : A + j = x at *
      have q7 := hc7 x (by omega)
      rw [ints_get (by omega)] at q7
      have q7f := hf7 x
      have hw : IntKind.i64.wrap ((A : Int) + (j : Int)) = x := by rw [← hx]; rw [IntWalk.i64_in _ (by omega)]; omega
      have hS7 : Step (· = (22, 7)) wr ρ (wr.setCell ⟨h7, x, none⟩ (.int .i64 0)) ρ := Step.setCell (T := fun x => x = ((22, 7) : Tag)) (Step.refl _ wr ρ) hg7' rfl _
      have hset := hO7.set x (.int .i64 0)
      rw [← ints_set] at hset
      have HFIN := Hd.mk (HR.upd7 hS7 hset (l := (zeroAt T.dat A j).set x 0) (by simp [hzl]) rfl)
      have HST := Hd.mk (HSR.trans (hS7.mono (by rintro t rfl; simp [RTag])))
      have HX := Hd.mk hx
      have hxl : x < T.dat.length := by omega
      generalize (zeroAt T.dat A j).getD x 0 = y at *
      clear hx hS7 hset HR HSR hc7 hf7 hzl hO7
      go_wp2
      go_roundw
      case rel =>
        refine ⟨j + 1, by go_num, by omega, ?_, HST.out⟩
        have h := HFIN.out
        rw [← HX.out, zeroAt_succ (by have := HX.out; omega)] at h
        rw [← HX.out]
        exact h
      case measure => simp [intOf]; omega
    · have hjk : j = k := by omega
      subst hjk
      have y4 := HR.blk.cell (i := 4) rfl
      have y4f := HR.blk.free 4
      have ho4 := HR.o4
      clear HR HSR hzl
      go_wp2_with (at_builtin; refine wpList_append_boxW rfl _ _ _ rfl 3 _ 1 8 Try.underlying28 info3 rfl (by decide) ρ (22, 4) (.slice A4 T.beg.length c4) T.beg.length _ [.int .i64 A] rfl ho4 1 _ rfl (by simp) rfl (by simp [Value.oneCell']) (by unfold maxLen; omega) (by omega) ?z1)
      case z1 =>
      intro r1 w1 ρ4 hO1 hS1
      obtain ⟨g1, d1, rfl, _⟩ := hO1.some (by omega)
      have H2 := HHR.out.app4 hS1 hO1 (l := T.beg ++ [(A : Int)]) (by simp) (by simp [ints])
      have hS1' : Step RTag w ρ (w1.setCell ⟨a, 4, none⟩ (.slice (some ⟨g1, 0, none⟩) (T.beg.length + 1) d1)) ρ4 := (HHSR.out.trans (hS1.mono (by rintro t rfl; simp [RTag]))).setCell H2.tag (by simp [RTag]) _
      have hb1 := hS1.blk' HHR.out.blk HHR.out.tag (by simp)
      have z4 := hb1.cell (i := 4) rfl
      have z4f := hb1.free 4
      have z5 := hb1.cell (i := 5) rfl
      have z5f := hb1.free 5
      have ho5 := H2.o5
      have HH2 := Hd.mk H2
      have HS1 := Hd.mk hS1'
      clear y4 y4f ho4 hO1 hS1 hb1 H2 hS1'
      go_wp2_with (at_builtin; refine wpList_append_boxW rfl _ _ _ rfl 3 _ 1 8 Try.underlying28 info3 rfl (by decide) ρ4 (22, 5) (.slice A5 T.siz.length c5) T.siz.length _ [.int .i64 j] rfl ho5 1 _ rfl (by simp) rfl (by simp [Value.oneCell']) (by unfold maxLen; omega) (by omega) ?z2)
      case z2 =>
      intro r2 w2 ρ5 hO2 hS2
      obtain ⟨g2, d2, rfl, _⟩ := hO2.some (by omega)
      have H3 := HH2.out.app5 hS2 hO2 (l := T.siz ++ [(j : Int)]) (by simp) (by simp [ints])
      have hS2' : Step RTag w ρ (w2.setCell ⟨a, 5, none⟩ (.slice (some ⟨g2, 0, none⟩) (T.siz.length + 1) d2)) ρ5 := (HS1.out.trans (hS2.mono (by rintro t rfl; simp [RTag]))).setCell H3.tag (by simp [RTag]) _
      have hb2 := hS2.blk' HH2.out.blk HH2.out.tag (by simp)
      have z5 := hb2.cell (i := 5) rfl
      have z5f := hb2.free 5
      have z6 := hb2.cell (i := 6) rfl
      have z6f := hb2.free 6
      have ho6 := H3.o6
      have HH3 := Hd.mk H3
      have HS2 := Hd.mk hS2'
      clear z4 z4f ho5 hO2 hS2 hb2 H3 hS2'
      go_wp2_with (at_builtin; refine wpList_append_boxW rfl _ _ _ rfl 3 _ 1 8 Try.underlying28 info3 rfl (by decide) ρ5 (22, 6) (.slice A6 T.reg.length c6) T.reg.length _ [.int .i64 i] rfl ho6 1 _ rfl (by simp) rfl (by simp [Value.oneCell']) (by unfold maxLen; omega) (by omega) ?z3)
      case z3 =>
      intro r3 w3 ρ6 hO3 hS3
      obtain ⟨g3, d3, rfl, _⟩ := hO3.some (by omega)
      have H4 := HH3.out.app6 hS3 hO3 (l := T.reg ++ [(i : Int)]) (by simp) (by simp [ints])
      have hS3' : Step RTag w ρ (w3.setCell ⟨a, 6, none⟩ (.slice (some ⟨g3, 0, none⟩) (T.reg.length + 1) d3)) ρ6 := (HS2.out.trans (hS3.mono (by rintro t rfl; simp [RTag]))).setCell H4.tag (by simp [RTag]) _
      have hb3 := hS3.blk' HH3.out.blk HH3.out.tag (by simp)
      have z6 := hb3.cell (i := 6) rfl
      have z6f := hb3.free 6
      have HH4 := Hd.mk H4
      have HS3 := Hd.mk hS3'
      clear z5 z5f ho6 hO3 hS3 hb3 H4 hS3'
      go_wp2
      go_ret2
      exact ⟨ρ6, rfl, ⟨_, _, _, _, _, _, _, _, HH4.out⟩, HS3.out⟩
set_option maxRecDepth 100000 in
set_option maxHeartbeats 2000000 in
theorem RAlloc_new1 (w : World) (ρ : Ghost) (a : Nat) (t : RSt) (H : RRep w ρ a t) (hF : RFine t) (hM : RRoom t) (i k : Nat) (h : rOpen t i = true) (hk1 : 1 ≤ k) (hk : k ≤ 16) (hcx : t.cur.getD i 0 < 0) (f : Nat) (hf0 : f = 0) :
    Calls Try.prog 16 #[.pointer (some ⟨a, 0, none⟩), .int .i64 i, .int .i64 k] w (RAPost ρ a (rFin (rIn (rNew t i) i k f) (16 * rAt t.own 1 + f) k i) (16 * rAt t.own 1 + f) w) := by
  have HC0 := isOpen_any w ρ a t H i
  rw [h] at HC0
  have HC := Hd.mk HC0
  have hF1 := hF.beg
  have hF2 := hF.own
  have hF3 := hF.dat
  have hF4 := hF.siz
  have hF5 := hF.reg
  obtain ⟨v0, v1, v2, v3, v4, v5, v6, v7, H⟩ := H
  have hF6' := hF.cur
  have hF7' := hF.fil
  obtain ⟨i', hi', hil, _⟩ := rOpen_some h
  have hii : i = i' := by omega
  subst hii
  have hF6 := hF.cur
  have hF7 := hF.fil
  have hcl : i < t.cur.length := by omega
  have hfl : i < t.fil.length := by omega
  clear h HC0 hM hF hi'
  obtain ⟨g1, c1, rfl, hg1, -⟩ := H.o1.some (by omega)
  obtain ⟨g2, c2, rfl, hg2, -⟩ := H.o2.some (by omega)
  obtain ⟨_, _, hv, _, _, _, hc1, hf1, _⟩ := H.o1.some (by omega)
  cases hv
  obtain ⟨_, _, hv, _, _, _, hc2, hf2, _⟩ := H.o2.some (by omega)
  cases hv
  have X1 := H.blk.cell (i := 1) rfl
  have X2 := H.blk.cell (i := 2) rfl
  have q1 := hc1 i (by omega)
  have q2 := hc2 i (by omega)
  rw [ints_get hcl] at q1
  rw [ints_get hfl] at q2
  clear hc1 hc2 hf1 hf2
  generalize t.cur.getD i 0 = cx at *
  generalize t.fil.getD i 0 = fx at *
  have HA := Hd.mk H
  clear H
  go_enter Try.func16, Try.ntmps16
  go_wp2_with fail
  refine HC.out.mono ?_
  rintro e w' ⟨rfl, rfl⟩
  go_wp2_with fail
  have HCT := Hd.mk (RTake_at w.drew ρ a t (HA.out.step (T := fun _ => False) (Step.refl _ w ρ).drew (by simp)) i 1 (by omega) (by omega) hF2 (by omega))
  have hne : g1 ≠ a := by intro h; have h1 := HA.out.tag; rw [← h, hg1] at h1; cases h1
  have X1 : w.drew.cell? ⟨a, 1, none⟩ = some (.slice (some ⟨g1, 0, none⟩) t.cur.length c1) := HA.out.blk.cell (i := 1) rfl
  have hcl0 : 0 < t.cur.length := by omega
  have hcl1 : i < t.cur.length * 1 := by omega
  have hI0 : (0 : Int) ≤ i := by omega
  have hI1 : (i : Int) < t.cur.length := by omega
  clear q1 q2
  go_region_held3 (fun wv => wv.cell? ⟨a, 1, none⟩ = some (.slice (some ⟨g1, 0, none⟩) t.cur.length c1)) (first | assumption | (rw [World.cell?_setCell_far _ _ _ _ (by first | exact hne | assumption)]; assumption)) (first | (go_at_call 39; refine HCT.out.mono ?_; rintro e W ⟨ρ1, z3, z7, rfl, H1, HS1⟩; have X1' : W.cell? ⟨a, 1, none⟩ = some (.slice (some ⟨g1, 0, none⟩) t.cur.length c1) := H1.blk.cell (i := 1) rfl; have ho1 : OwnSl W ρ1 (22, 1) 3 1 (.slice (some ⟨g1, 0, none⟩) t.cur.length c1) t.cur.length (ints t.cur) := H1.o1; obtain ⟨_, _, hv, _, _, _, hc1, hf1, _⟩ := ho1.some hcl0; cases hv; have q1 := hc1 i hcl1; have q1f := hf1 i; rw [ints_get hcl] at q1; clear ho1 hc1 hf1; have HA1 := Hd.mk H1; have HB1 := Hd.mk HS1; clear H1 HS1))
  have H1 := HA1.out
  obtain ⟨_, _, hv, hg1', _, _, _, _, _⟩ := H1.o1.some hcl0
  cases hv
  have hS1 : Step (· = (22, 1)) W ρ1 (W.setCell ⟨g1, i, none⟩ (.int .i64 (rAt t.own 1))) ρ1 := Step.setCell (T := fun x => x = ((22, 1) : Tag)) (Step.refl _ W ρ1) hg1' rfl _
  have hset := H1.o1.set i (.int .i64 (rAt t.own 1))
  rw [← ints_set] at hset
  have H2 := H1.upd1 hS1 hset (l := t.cur.set i (rAt t.own 1)) (by simp) rfl
  have HB2 := Hd.mk (((Step.refl RTag w ρ).drew.trans HB1.out).trans (hS1.mono (by rintro t rfl; simp [RTag])))
  generalize W.setCell ⟨g1, i, none⟩ (.int .i64 (rAt t.own 1)) = V at *
  have X2' : V.cell? ⟨a, 2, none⟩ = some (.slice (some ⟨g2, 0, none⟩) t.fil.length c2) := H2.blk.cell (i := 2) rfl
  have ho2 : OwnSl V ρ1 (22, 2) 3 1 (.slice (some ⟨g2, 0, none⟩) t.fil.length c2) t.fil.length (ints t.fil) := H2.o2
  obtain ⟨_, _, hv, hg2', _, _, hc2, hf2, _⟩ := ho2.some (by omega)
  cases hv
  have q2 := hc2 i (by omega)
  have q2f := hf2 i
  rw [ints_get hfl] at q2
  have hset := ho2.set i (.int .i64 0)
  rw [← ints_set] at hset
  have hS2 : Step (· = (22, 2)) V ρ1 (V.setCell ⟨g2, i, none⟩ (.int .i64 0)) ρ1 := Step.setCell (T := fun x => x = ((22, 2) : Tag)) (Step.refl _ V ρ1) hg2' rfl _
  have H3 := H2.upd2 hS2 hset (l := t.fil.set i 0) (by simp) rfl
  have hNF := rNew_facts t i hF6' hF7' hil hF3 hF2
  have H3 : RRepAt (V.setCell ⟨g2, i, none⟩ (.int .i64 0)) ρ1 a (rNew t i) v0 (.slice (some ⟨g1, 0, none⟩) (rNew t i).cur.length c1) (.slice (some ⟨g2, 0, none⟩) (rNew t i).fil.length c2) z3 v4 v5 v6 z7 := by
    rw [hNF.1, hNF.2.1]; exact H3
  have HA3 := Hd.mk H3
  have HB3 := Hd.mk (HB2.out.trans (hS2.mono (by rintro t rfl; simp [RTag])))
  have HNF := Hd.mk hNF
  clear H1 H2 H3 hset hS1 hS2 HA HB1 HB2 HA1 HCT hc2 hf2 ho2 hNF 
  go_wp2_with fail
  generalize V.setCell ⟨g2, i, none⟩ (.int .i64 0) = V2 at *
  have H1 := HA3.out
  have HS1 := HB3.out
  obtain ⟨hn1, hn2, hcur, hfil, hn5, hn6, hqd, hcb, hn7, hn8⟩ := HNF.out
  have hF2 : (rNew t i).own.length ≤ 200300 := hn5
  have hb1 : (rNew t i).beg.length ≤ 1000 := by rw [hn6]; exact hF1
  have hb2 : (rNew t i).siz.length ≤ 1000 := by rw [hn7]; omega
  have hb3 : (rNew t i).reg.length ≤ 1000 := by rw [hn8]; omega
  have hcl : i < (rNew t i).cur.length := by omega
  have hfl : i < (rNew t i).fil.length := by omega
  have hfil : (rNew t i).fil.getD i 0 = (f : Int) := by rw [hfil, hf0]; rfl
  have hroom : f + k ≤ 16 := by omega
  generalize rNew t i = T0 at *
  generalize rAt t.own 1 = c at *
  clear hf0 HA3 HB3 HNF hn1 hn2 hn5 hn6 hn7 hn8 X1 X2 X2' q2 q2f hF1 hF3 hF4 hF5
  have e1 : IntKind.i64.wrap (16 * (c : Int)) = 16 * c := IntWalk.i64_in _ (by omega)
  have e2 : IntKind.i64.wrap (16 * (c : Int) + f) = 16 * c + f := IntWalk.i64_in _ (by omega)
  have e3 : IntKind.i64.wrap ((f : Int) + k) = f + k := IntWalk.i64_in _ (by omega)
  obtain ⟨_, _, hv, hg1, _, _, hc1, hf1, _⟩ := H1.o1.some (by omega)
  cases hv
  obtain ⟨_, _, hv, hg2, _, _, hc2, hf2, _⟩ := H1.o2.some (by omega)
  cases hv
  have X1 := H1.blk.cell (i := 1) rfl
  have X2 := H1.blk.cell (i := 2) rfl
  have q1 := hc1 i (by omega)
  have q2 := hc2 i (by omega)
  rw [ints_get hcl, hcur] at q1
  rw [ints_get hfl, hfil] at q2
  have hQ2 := hf2 i
  clear hc1 hc2 hf1 hf2 hg1
  have HA := Hd.mk H1
  have HB := Hd.mk HS1
  clear H1 HS1 hg2
  go_quiet (fail)
  clear X1 X2 q1 q2 hQ2
  have H1 := HA.out.step (T := fun _ => False) ((Step.refl _ V2 ρ1).drewN nq) (by simp)
  have HS1 := HB.out.drewN nq
  generalize V2.drewN nq = W1 at *
  obtain ⟨_, _, hv, hg1, _, _, hc1, hf1, _⟩ := H1.o1.some (by omega)
  cases hv
  obtain ⟨_, _, hv, hg2, _, _, hc2, hf2, _⟩ := H1.o2.some (by omega)
  cases hv
  have X1 := H1.blk.cell (i := 1) rfl
  have X2 := H1.blk.cell (i := 2) rfl
  have q1 := hc1 i (by omega)
  have q2 := hc2 i (by omega)
  rw [ints_get hcl, hcur] at q1
  rw [ints_get hfl, hfil] at q2
  have hQ2 := hf2 i
  clear hc1 hc2 hf1 hf2 hg1
  have HA := Hd.mk H1
  have HB := Hd.mk HS1
  clear H1 HS1 hg2
  go_wp2_with fail
  go_still_tail 15, (by kernel_rfl)
  clear X1 X2 q1 q2 hQ2 e1 e2 e3
  change wpList _ _ _ _ _ W1.drew
  have H1 := HA.out.step (T := fun _ => False) (Step.refl _ W1 ρ1).drew (by simp)
  have HS1 := HB.out.drew
  generalize W1.drew = W2 at *
  obtain ⟨_, _, hv, hg1, _, _, hc1, hf1, _⟩ := H1.o1.some (by omega)
  cases hv
  obtain ⟨_, _, hv, hg2, _, _, hc2, hf2, _⟩ := H1.o2.some (by omega)
  cases hv
  have X1 := H1.blk.cell (i := 1) rfl
  have X2 := H1.blk.cell (i := 2) rfl
  have q1 := hc1 i (by omega)
  have q2 := hc2 i (by omega)
  rw [ints_get hcl, hcur] at q1
  rw [ints_get hfl, hfil] at q2
  have hQ2 := hf2 i
  clear hc1 hc2 hf1 hf2 hg1

  have hS2 : Step (· = (22, 2)) W2 ρ1 (W2.setCell ⟨g2, i, none⟩ (.int .i64 (f + k))) ρ1 := Step.setCell (T := fun x => x = ((22, 2) : Tag)) (Step.refl _ W2 ρ1) hg2 rfl _
  have hset := H1.o2.set i (.int .i64 (f + k))
  rw [← ints_set] at hset
  have H2 := H1.upd2 hS2 hset (l := T0.fil.set i ((f : Int) + k)) (by simp) rfl
  have HFIN := Hd.mk H2
  have HST := Hd.mk (HS1.trans (hS2.mono (by rintro t rfl; simp [RTag])))
  clear hS2 hset H2 H1 HS1 hg2
  go_wp2_with fail
  generalize W2.setCell ⟨g2, i, none⟩ (.int .i64 (f + k)) = W3 at *
  have hT1 : (rIn T0 i k f).dat.length ≤ 5000000 ∧ 16 * c + f + k ≤ (rIn T0 i k f).dat.length ∧ (rIn T0 i k f).beg.length ≤ 1000 ∧ (rIn T0 i k f).siz.length ≤ 1000 ∧ (rIn T0 i k f).reg.length ≤ 1000 := by
    unfold rIn; dsimp only; omega
  obtain ⟨u0, u1, u2, u3, u4, u5, u6, u7, H1⟩ : RRep W3 ρ1 a (rIn T0 i k f) := ⟨_, _, _, _, _, _, _, _, HFIN.out⟩
  have HS1 := HST.out
  generalize rIn T0 i k f = T at *
  obtain ⟨hdl, hAk, hbl, hsl, hrl⟩ := hT1
  generalize hA : 16 * c + f = A at *
  have hA2 : 16 * (c : Int) + f = A := by omega
  try simp only [hA2]
  clear X1 X2 q1 q2 hQ2 HFIN HST HA HB hcur hfil hcl hfl hqd

  have hTd : 1 ≤ T.dat.length := by omega
  obtain ⟨h7, d7, rfl, hg7, _, _, _, _, _⟩ := H1.o7.some (by omega)
  obtain ⟨A4, c4, rfl, _, _⟩ := H1.o4.form
  obtain ⟨A5, c5, rfl, _, _⟩ := H1.o5.form
  obtain ⟨A6, c6, rfl, _, _⟩ := H1.o6.form
  have HH1 := Hd.mk H1
  have HHS1 := Hd.mk HS1
  clear H1 HS1
  go_wp2_with fail
  go_loopw [9] (fun v wr => ∃ j : Nat, v = .int .i64 j ∧ j ≤ k ∧ RRepAt wr ρ1 a { T with dat := zeroAt T.dat A j } u0 u1 u2 u3 (.slice A4 T.beg.length c4) (.slice A5 T.siz.length c5) (.slice A6 T.reg.length c6) (.slice (some ⟨h7, 0, none⟩) T.dat.length d7) ∧ Step RTag w ρ wr ρ1) (fun v _ => k - (intOf v).toNat)
  case atStart =>
    refine ⟨0, by simp, by omega, ?_, HHS1.out⟩
    have e : zeroAt T.dat A 0 = T.dat := splice_nil _ _
    rw [e]
    exact HH1.out
  case round =>
    obtain ⟨j, rfl, hj, HR, HSR⟩ := hrel
    have HHR := Hd.mk HR
    have HHSR := Hd.mk HSR
    have hzl : (zeroAt T.dat A j).length = T.dat.length := zeroAt_length (by omega)
    by_cases hlt : j < k
    · have x7 := HR.blk.cell (i := 7) rfl
      have hO7 : OwnSl wr ρ1 (22, 7) 2 1 (.slice (some ⟨h7, 0, none⟩) T.dat.length d7) T.dat.length (ints (zeroAt T.dat A j)) := by have := HR.o7; simp only [hzl] at this; exact this
      obtain ⟨h7', d7', hv, hg7', _, _, hc7, hf7, _⟩ := hO7.some (by omega)
      cases hv
      generalize hx : A + j = x at *
      have q7 := hc7 x (by omega)
      rw [ints_get (by omega)] at q7
      have q7f := hf7 x
      have hw : IntKind.i64.wrap ((A : Int) + (j : Int)) = x := by rw [← hx]; rw [IntWalk.i64_in _ (by omega)]; omega
      have hS7 : Step (· = (22, 7)) wr ρ1 (wr.setCell ⟨h7, x, none⟩ (.int .i64 0)) ρ1 := Step.setCell (T := fun x => x = ((22, 7) : Tag)) (Step.refl _ wr ρ1) hg7' rfl _
      have hset := hO7.set x (.int .i64 0)
      rw [← ints_set] at hset
      have HFIN := Hd.mk (HR.upd7 hS7 hset (l := (zeroAt T.dat A j).set x 0) (by simp [hzl]) rfl)
      have HST := Hd.mk (HSR.trans (hS7.mono (by rintro t rfl; simp [RTag])))
      have HX := Hd.mk hx
      have hxl : x < T.dat.length := by omega
      generalize (zeroAt T.dat A j).getD x 0 = y at *
      clear hx hS7 hset HR HSR hc7 hf7 hzl hO7
      go_wp2
      go_roundw
      case rel =>
        refine ⟨j + 1, by go_num, by omega, ?_, HST.out⟩
        have h := HFIN.out
        rw [← HX.out, zeroAt_succ (by have := HX.out; omega)] at h
        rw [← HX.out]
        exact h
      case measure => simp [intOf]; omega
    · have hjk : j = k := by omega
      subst hjk
      have y4 := HR.blk.cell (i := 4) rfl
      have y4f := HR.blk.free 4
      have ho4 := HR.o4
      clear HR HSR hzl
      go_wp2_with (at_builtin; refine wpList_append_boxW rfl _ _ _ rfl 3 _ 1 8 Try.underlying28 info3 rfl (by decide) ρ1 (22, 4) (.slice A4 T.beg.length c4) T.beg.length _ [.int .i64 A] rfl ho4 1 _ rfl (by simp) rfl (by simp [Value.oneCell']) (by unfold maxLen; omega) (by omega) ?z1)
      case z1 =>
      intro r1 w1 ρ4 hO1 hS1
      obtain ⟨g1, d1, rfl, _⟩ := hO1.some (by omega)
      have H2 := HHR.out.app4 hS1 hO1 (l := T.beg ++ [(A : Int)]) (by simp) (by simp [ints])
      have hS1' : Step RTag w ρ (w1.setCell ⟨a, 4, none⟩ (.slice (some ⟨g1, 0, none⟩) (T.beg.length + 1) d1)) ρ4 := (HHSR.out.trans (hS1.mono (by rintro t rfl; simp [RTag]))).setCell H2.tag (by simp [RTag]) _
      have hb1 := hS1.blk' HHR.out.blk HHR.out.tag (by simp)
      have z4 := hb1.cell (i := 4) rfl
      have z4f := hb1.free 4
      have z5 := hb1.cell (i := 5) rfl
      have z5f := hb1.free 5
      have ho5 := H2.o5
      have HH2 := Hd.mk H2
      have HS1 := Hd.mk hS1'
      clear y4 y4f ho4 hO1 hS1 hb1 H2 hS1'
      go_wp2_with (at_builtin; refine wpList_append_boxW rfl _ _ _ rfl 3 _ 1 8 Try.underlying28 info3 rfl (by decide) ρ4 (22, 5) (.slice A5 T.siz.length c5) T.siz.length _ [.int .i64 j] rfl ho5 1 _ rfl (by simp) rfl (by simp [Value.oneCell']) (by unfold maxLen; omega) (by omega) ?z2)
      case z2 =>
      intro r2 w2 ρ5 hO2 hS2
      obtain ⟨g2, d2, rfl, _⟩ := hO2.some (by omega)
      have H3 := HH2.out.app5 hS2 hO2 (l := T.siz ++ [(j : Int)]) (by simp) (by simp [ints])
      have hS2' : Step RTag w ρ (w2.setCell ⟨a, 5, none⟩ (.slice (some ⟨g2, 0, none⟩) (T.siz.length + 1) d2)) ρ5 := (HS1.out.trans (hS2.mono (by rintro t rfl; simp [RTag]))).setCell H3.tag (by simp [RTag]) _
      have hb2 := hS2.blk' HH2.out.blk HH2.out.tag (by simp)
      have z5 := hb2.cell (i := 5) rfl
      have z5f := hb2.free 5
      have z6 := hb2.cell (i := 6) rfl
      have z6f := hb2.free 6
      have ho6 := H3.o6
      have HH3 := Hd.mk H3
      have HS2 := Hd.mk hS2'
      clear z4 z4f ho5 hO2 hS2 hb2 H3 hS2'
      go_wp2_with (at_builtin; refine wpList_append_boxW rfl _ _ _ rfl 3 _ 1 8 Try.underlying28 info3 rfl (by decide) ρ5 (22, 6) (.slice A6 T.reg.length c6) T.reg.length _ [.int .i64 i] rfl ho6 1 _ rfl (by simp) rfl (by simp [Value.oneCell']) (by unfold maxLen; omega) (by omega) ?z3)
      case z3 =>
      intro r3 w3 ρ6 hO3 hS3
      obtain ⟨g3, d3, rfl, _⟩ := hO3.some (by omega)
      have H4 := HH3.out.app6 hS3 hO3 (l := T.reg ++ [(i : Int)]) (by simp) (by simp [ints])
      have hS3' : Step RTag w ρ (w3.setCell ⟨a, 6, none⟩ (.slice (some ⟨g3, 0, none⟩) (T.reg.length + 1) d3)) ρ6 := (HS2.out.trans (hS3.mono (by rintro t rfl; simp [RTag]))).setCell H4.tag (by simp [RTag]) _
      have hb3 := hS3.blk' HH3.out.blk HH3.out.tag (by simp)
      have z6 := hb3.cell (i := 6) rfl
      have z6f := hb3.free 6
      have HH4 := Hd.mk H4
      have HS3 := Hd.mk hS3'
      clear z5 z5f ho6 hO3 hS3 hb3 H4 hS3'
      go_wp2
      go_ret2
      exact ⟨ρ6, rfl, ⟨_, _, _, _, _, _, _, _, HH4.out⟩, HS3.out⟩
set_option maxRecDepth 100000 in
set_option maxHeartbeats 2000000 in
theorem RAlloc_new2 (w : World) (ρ : Ghost) (a : Nat) (t : RSt) (H : RRep w ρ a t) (hF : RFine t) (hM : RRoom t) (i k : Nat) (h : rOpen t i = true) (hk1 : 1 ≤ k) (hk : k ≤ 16) (hcx : 0 ≤ t.cur.getD i 0) (hfx : 16 < t.fil.getD i 0 + k) (f : Nat) (hf0 : f = 0) :
    Calls Try.prog 16 #[.pointer (some ⟨a, 0, none⟩), .int .i64 i, .int .i64 k] w (RAPost ρ a (rFin (rIn (rNew t i) i k f) (16 * rAt t.own 1 + f) k i) (16 * rAt t.own 1 + f) w) := by
  have HC0 := isOpen_any w ρ a t H i
  rw [h] at HC0
  have HC := Hd.mk HC0
  have hF1 := hF.beg
  have hF2 := hF.own
  have hF3 := hF.dat
  have hF4 := hF.siz
  have hF5 := hF.reg
  obtain ⟨v0, v1, v2, v3, v4, v5, v6, v7, H⟩ := H
  have hM' := hM
  have hF6' := hF.cur
  have hF7' := hF.fil
  obtain ⟨i', hi', hil, _⟩ := rOpen_some h
  have hii : i = i' := by omega
  subst hii
  have hF6 := hF.cur
  have hF7 := hF.fil
  have hcl : i < t.cur.length := by omega
  have hfl : i < t.fil.length := by omega
  clear h HC0 hM hF hi'
  obtain ⟨g1, c1, rfl, hg1, -⟩ := H.o1.some (by omega)
  obtain ⟨g2, c2, rfl, hg2, -⟩ := H.o2.some (by omega)
  obtain ⟨_, _, hv, _, _, _, hc1, hf1, _⟩ := H.o1.some (by omega)
  cases hv
  obtain ⟨_, _, hv, _, _, _, hc2, hf2, _⟩ := H.o2.some (by omega)
  cases hv
  have X1 := H.blk.cell (i := 1) rfl
  have X2 := H.blk.cell (i := 2) rfl
  have q1 := hc1 i (by omega)
  have q2 := hc2 i (by omega)
  rw [ints_get hcl] at q1
  rw [ints_get hfl] at q2
  clear hc1 hc2 hf1 hf2
  have hfb := all_getD hM'.fil hfl
  generalize t.cur.getD i 0 = cx at *
  generalize t.fil.getD i 0 = fx at *
  have e0 : IntKind.i64.wrap (fx + k) = fx + k := IntWalk.i64_in _ (by omega)
  have hcx2 : ¬ (cx < 0) := by omega
  have HA := Hd.mk H
  clear H
  go_enter Try.func16, Try.ntmps16
  go_wp2_with fail
  refine HC.out.mono ?_
  rintro e w' ⟨rfl, rfl⟩
  go_wp2_with fail
  have HCT := Hd.mk (RTake_at w.drew ρ a t (HA.out.step (T := fun _ => False) (Step.refl _ w ρ).drew (by simp)) i 1 (by omega) (by omega) hF2 (by omega))
  have hne : g1 ≠ a := by intro h; have h1 := HA.out.tag; rw [← h, hg1] at h1; cases h1
  have X1 : w.drew.cell? ⟨a, 1, none⟩ = some (.slice (some ⟨g1, 0, none⟩) t.cur.length c1) := HA.out.blk.cell (i := 1) rfl
  have hcl0 : 0 < t.cur.length := by omega
  have hcl1 : i < t.cur.length * 1 := by omega
  have hI0 : (0 : Int) ≤ i := by omega
  have hI1 : (i : Int) < t.cur.length := by omega
  clear q1 q2
  go_region_held3 (fun wv => wv.cell? ⟨a, 1, none⟩ = some (.slice (some ⟨g1, 0, none⟩) t.cur.length c1)) (first | assumption | (rw [World.cell?_setCell_far _ _ _ _ (by first | exact hne | assumption)]; assumption)) (first | (go_at_call 39; refine HCT.out.mono ?_; rintro e W ⟨ρ1, z3, z7, rfl, H1, HS1⟩; have X1' : W.cell? ⟨a, 1, none⟩ = some (.slice (some ⟨g1, 0, none⟩) t.cur.length c1) := H1.blk.cell (i := 1) rfl; have ho1 : OwnSl W ρ1 (22, 1) 3 1 (.slice (some ⟨g1, 0, none⟩) t.cur.length c1) t.cur.length (ints t.cur) := H1.o1; obtain ⟨_, _, hv, _, _, _, hc1, hf1, _⟩ := ho1.some hcl0; cases hv; have q1 := hc1 i hcl1; have q1f := hf1 i; rw [ints_get hcl] at q1; clear ho1 hc1 hf1; have HA1 := Hd.mk H1; have HB1 := Hd.mk HS1; clear H1 HS1))
  have H1 := HA1.out
  obtain ⟨_, _, hv, hg1', _, _, _, _, _⟩ := H1.o1.some hcl0
  cases hv
  have hS1 : Step (· = (22, 1)) W ρ1 (W.setCell ⟨g1, i, none⟩ (.int .i64 (rAt t.own 1))) ρ1 := Step.setCell (T := fun x => x = ((22, 1) : Tag)) (Step.refl _ W ρ1) hg1' rfl _
  have hset := H1.o1.set i (.int .i64 (rAt t.own 1))
  rw [← ints_set] at hset
  have H2 := H1.upd1 hS1 hset (l := t.cur.set i (rAt t.own 1)) (by simp) rfl
  have HB2 := Hd.mk (((Step.refl RTag w ρ).drew.trans HB1.out).trans (hS1.mono (by rintro t rfl; simp [RTag])))
  generalize W.setCell ⟨g1, i, none⟩ (.int .i64 (rAt t.own 1)) = V at *
  have X2' : V.cell? ⟨a, 2, none⟩ = some (.slice (some ⟨g2, 0, none⟩) t.fil.length c2) := H2.blk.cell (i := 2) rfl
  have ho2 : OwnSl V ρ1 (22, 2) 3 1 (.slice (some ⟨g2, 0, none⟩) t.fil.length c2) t.fil.length (ints t.fil) := H2.o2
  obtain ⟨_, _, hv, hg2', _, _, hc2, hf2, _⟩ := ho2.some (by omega)
  cases hv
  have q2 := hc2 i (by omega)
  have q2f := hf2 i
  rw [ints_get hfl] at q2
  have hset := ho2.set i (.int .i64 0)
  rw [← ints_set] at hset
  have hS2 : Step (· = (22, 2)) V ρ1 (V.setCell ⟨g2, i, none⟩ (.int .i64 0)) ρ1 := Step.setCell (T := fun x => x = ((22, 2) : Tag)) (Step.refl _ V ρ1) hg2' rfl _
  have H3 := H2.upd2 hS2 hset (l := t.fil.set i 0) (by simp) rfl
  have hNF := rNew_facts t i hF6' hF7' hil hF3 hF2
  have H3 : RRepAt (V.setCell ⟨g2, i, none⟩ (.int .i64 0)) ρ1 a (rNew t i) v0 (.slice (some ⟨g1, 0, none⟩) (rNew t i).cur.length c1) (.slice (some ⟨g2, 0, none⟩) (rNew t i).fil.length c2) z3 v4 v5 v6 z7 := by
    rw [hNF.1, hNF.2.1]; exact H3
  have HA3 := Hd.mk H3
  have HB3 := Hd.mk (HB2.out.trans (hS2.mono (by rintro t rfl; simp [RTag])))
  have HNF := Hd.mk hNF
  clear H1 H2 H3 hset hS1 hS2 HA HB1 HB2 HA1 HCT hc2 hf2 ho2 hNF 
  go_wp2_with fail
  generalize V.setCell ⟨g2, i, none⟩ (.int .i64 0) = V2 at *
  have H1 := HA3.out
  have HS1 := HB3.out
  obtain ⟨hn1, hn2, hcur, hfil, hn5, hn6, hqd, hcb, hn7, hn8⟩ := HNF.out
  have hF2 : (rNew t i).own.length ≤ 200300 := hn5
  have hb1 : (rNew t i).beg.length ≤ 1000 := by rw [hn6]; exact hF1
  have hb2 : (rNew t i).siz.length ≤ 1000 := by rw [hn7]; omega
  have hb3 : (rNew t i).reg.length ≤ 1000 := by rw [hn8]; omega
  have hcl : i < (rNew t i).cur.length := by omega
  have hfl : i < (rNew t i).fil.length := by omega
  have hfil : (rNew t i).fil.getD i 0 = (f : Int) := by rw [hfil, hf0]; rfl
  have hroom : f + k ≤ 16 := by omega
  generalize rNew t i = T0 at *
  generalize rAt t.own 1 = c at *
  clear hf0 HA3 HB3 HNF hn1 hn2 hn5 hn6 hn7 hn8 X1 X2 X2' q2 q2f hF1 hF3 hF4 hF5
  have e1 : IntKind.i64.wrap (16 * (c : Int)) = 16 * c := IntWalk.i64_in _ (by omega)
  have e2 : IntKind.i64.wrap (16 * (c : Int) + f) = 16 * c + f := IntWalk.i64_in _ (by omega)
  have e3 : IntKind.i64.wrap ((f : Int) + k) = f + k := IntWalk.i64_in _ (by omega)
  obtain ⟨_, _, hv, hg1, _, _, hc1, hf1, _⟩ := H1.o1.some (by omega)
  cases hv
  obtain ⟨_, _, hv, hg2, _, _, hc2, hf2, _⟩ := H1.o2.some (by omega)
  cases hv
  have X1 := H1.blk.cell (i := 1) rfl
  have X2 := H1.blk.cell (i := 2) rfl
  have q1 := hc1 i (by omega)
  have q2 := hc2 i (by omega)
  rw [ints_get hcl, hcur] at q1
  rw [ints_get hfl, hfil] at q2
  have hQ2 := hf2 i
  clear hc1 hc2 hf1 hf2 hg1
  have HA := Hd.mk H1
  have HB := Hd.mk HS1
  clear H1 HS1 hg2
  go_quiet (fail)
  clear X1 X2 q1 q2 hQ2
  have H1 := HA.out.step (T := fun _ => False) ((Step.refl _ V2 ρ1).drewN nq) (by simp)
  have HS1 := HB.out.drewN nq
  generalize V2.drewN nq = W1 at *
  obtain ⟨_, _, hv, hg1, _, _, hc1, hf1, _⟩ := H1.o1.some (by omega)
  cases hv
  obtain ⟨_, _, hv, hg2, _, _, hc2, hf2, _⟩ := H1.o2.some (by omega)
  cases hv
  have X1 := H1.blk.cell (i := 1) rfl
  have X2 := H1.blk.cell (i := 2) rfl
  have q1 := hc1 i (by omega)
  have q2 := hc2 i (by omega)
  rw [ints_get hcl, hcur] at q1
  rw [ints_get hfl, hfil] at q2
  have hQ2 := hf2 i
  clear hc1 hc2 hf1 hf2 hg1
  have HA := Hd.mk H1
  have HB := Hd.mk HS1
  clear H1 HS1 hg2
  go_wp2_with fail
  go_still_tail 15, (by kernel_rfl)
  clear X1 X2 q1 q2 hQ2 e1 e2 e3
  change wpList _ _ _ _ _ W1.drew
  have H1 := HA.out.step (T := fun _ => False) (Step.refl _ W1 ρ1).drew (by simp)
  have HS1 := HB.out.drew
  generalize W1.drew = W2 at *
  obtain ⟨_, _, hv, hg1, _, _, hc1, hf1, _⟩ := H1.o1.some (by omega)
  cases hv
  obtain ⟨_, _, hv, hg2, _, _, hc2, hf2, _⟩ := H1.o2.some (by omega)
  cases hv
  have X1 := H1.blk.cell (i := 1) rfl
  have X2 := H1.blk.cell (i := 2) rfl
  have q1 := hc1 i (by omega)
  have q2 := hc2 i (by omega)
  rw [ints_get hcl, hcur] at q1
  rw [ints_get hfl, hfil] at q2
  have hQ2 := hf2 i
  clear hc1 hc2 hf1 hf2 hg1

  have hS2 : Step (· = (22, 2)) W2 ρ1 (W2.setCell ⟨g2, i, none⟩ (.int .i64 (f + k))) ρ1 := Step.setCell (T := fun x => x = ((22, 2) : Tag)) (Step.refl _ W2 ρ1) hg2 rfl _
  have hset := H1.o2.set i (.int .i64 (f + k))
  rw [← ints_set] at hset
  have H2 := H1.upd2 hS2 hset (l := T0.fil.set i ((f : Int) + k)) (by simp) rfl
  have HFIN := Hd.mk H2
  have HST := Hd.mk (HS1.trans (hS2.mono (by rintro t rfl; simp [RTag])))
  clear hS2 hset H2 H1 HS1 hg2
  go_wp2_with fail
  generalize W2.setCell ⟨g2, i, none⟩ (.int .i64 (f + k)) = W3 at *
  have hT1 : (rIn T0 i k f).dat.length ≤ 5000000 ∧ 16 * c + f + k ≤ (rIn T0 i k f).dat.length ∧ (rIn T0 i k f).beg.length ≤ 1000 ∧ (rIn T0 i k f).siz.length ≤ 1000 ∧ (rIn T0 i k f).reg.length ≤ 1000 := by
    unfold rIn; dsimp only; omega
  obtain ⟨u0, u1, u2, u3, u4, u5, u6, u7, H1⟩ : RRep W3 ρ1 a (rIn T0 i k f) := ⟨_, _, _, _, _, _, _, _, HFIN.out⟩
  have HS1 := HST.out
  generalize rIn T0 i k f = T at *
  obtain ⟨hdl, hAk, hbl, hsl, hrl⟩ := hT1
  generalize hA : 16 * c + f = A at *
  have hA2 : 16 * (c : Int) + f = A := by omega
  try simp only [hA2]
  clear X1 X2 q1 q2 hQ2 HFIN HST HA HB hcur hfil hcl hfl hqd

  have hTd : 1 ≤ T.dat.length := by omega
  obtain ⟨h7, d7, rfl, hg7, _, _, _, _, _⟩ := H1.o7.some (by omega)
  obtain ⟨A4, c4, rfl, _, _⟩ := H1.o4.form
  obtain ⟨A5, c5, rfl, _, _⟩ := H1.o5.form
  obtain ⟨A6, c6, rfl, _, _⟩ := H1.o6.form
  have HH1 := Hd.mk H1
  have HHS1 := Hd.mk HS1
  clear H1 HS1
  go_wp2_with fail
  go_loopw [9] (fun v wr => ∃ j : Nat, v = .int .i64 j ∧ j ≤ k ∧ RRepAt wr ρ1 a { T with dat := zeroAt T.dat A j } u0 u1 u2 u3 (.slice A4 T.beg.length c4) (.slice A5 T.siz.length c5) (.slice A6 T.reg.length c6) (.slice (some ⟨h7, 0, none⟩) T.dat.length d7) ∧ Step RTag w ρ wr ρ1) (fun v _ => k - (intOf v).toNat)
  case atStart =>
    refine ⟨0, by simp, by omega, ?_, HHS1.out⟩
    have e : zeroAt T.dat A 0 = T.dat := splice_nil _ _
    rw [e]
    exact HH1.out
  case round =>
    obtain ⟨j, rfl, hj, HR, HSR⟩ := hrel
    have HHR := Hd.mk HR
    have HHSR := Hd.mk HSR
    have hzl : (zeroAt T.dat A j).length = T.dat.length := zeroAt_length (by omega)
    by_cases hlt : j < k
    · have x7 := HR.blk.cell (i := 7) rfl
      have hO7 : OwnSl wr ρ1 (22, 7) 2 1 (.slice (some ⟨h7, 0, none⟩) T.dat.length d7) T.dat.length (ints (zeroAt T.dat A j)) := by have := HR.o7; simp only [hzl] at this; exact this
      obtain ⟨h7', d7', hv, hg7', _, _, hc7, hf7, _⟩ := hO7.some (by omega)
      cases hv
      generalize hx : A + j = x at *
      have q7 := hc7 x (by omega)
      rw [ints_get (by omega)] at q7
      have q7f := hf7 x
      have hw : IntKind.i64.wrap ((A : Int) + (j : Int)) = x := by rw [← hx]; rw [IntWalk.i64_in _ (by omega)]; omega
      have hS7 : Step (· = (22, 7)) wr ρ1 (wr.setCell ⟨h7, x, none⟩ (.int .i64 0)) ρ1 := Step.setCell (T := fun x => x = ((22, 7) : Tag)) (Step.refl _ wr ρ1) hg7' rfl _
      have hset := hO7.set x (.int .i64 0)
      rw [← ints_set] at hset
      have HFIN := Hd.mk (HR.upd7 hS7 hset (l := (zeroAt T.dat A j).set x 0) (by simp [hzl]) rfl)
      have HST := Hd.mk (HSR.trans (hS7.mono (by rintro t rfl; simp [RTag])))
      have HX := Hd.mk hx
      have hxl : x < T.dat.length := by omega
      generalize (zeroAt T.dat A j).getD x 0 = y at *
      clear hx hS7 hset HR HSR hc7 hf7 hzl hO7
      go_wp2
      go_roundw
      case rel =>
        refine ⟨j + 1, by go_num, by omega, ?_, HST.out⟩
        have h := HFIN.out
        rw [← HX.out, zeroAt_succ (by have := HX.out; omega)] at h
        rw [← HX.out]
        exact h
      case measure => simp [intOf]; omega
    · have hjk : j = k := by omega
      subst hjk
      have y4 := HR.blk.cell (i := 4) rfl
      have y4f := HR.blk.free 4
      have ho4 := HR.o4
      clear HR HSR hzl
      go_wp2_with (at_builtin; refine wpList_append_boxW rfl _ _ _ rfl 3 _ 1 8 Try.underlying28 info3 rfl (by decide) ρ1 (22, 4) (.slice A4 T.beg.length c4) T.beg.length _ [.int .i64 A] rfl ho4 1 _ rfl (by simp) rfl (by simp [Value.oneCell']) (by unfold maxLen; omega) (by omega) ?z1)
      case z1 =>
      intro r1 w1 ρ4 hO1 hS1
      obtain ⟨g1, d1, rfl, _⟩ := hO1.some (by omega)
      have H2 := HHR.out.app4 hS1 hO1 (l := T.beg ++ [(A : Int)]) (by simp) (by simp [ints])
      have hS1' : Step RTag w ρ (w1.setCell ⟨a, 4, none⟩ (.slice (some ⟨g1, 0, none⟩) (T.beg.length + 1) d1)) ρ4 := (HHSR.out.trans (hS1.mono (by rintro t rfl; simp [RTag]))).setCell H2.tag (by simp [RTag]) _
      have hb1 := hS1.blk' HHR.out.blk HHR.out.tag (by simp)
      have z4 := hb1.cell (i := 4) rfl
      have z4f := hb1.free 4
      have z5 := hb1.cell (i := 5) rfl
      have z5f := hb1.free 5
      have ho5 := H2.o5
      have HH2 := Hd.mk H2
      have HS1 := Hd.mk hS1'
      clear y4 y4f ho4 hO1 hS1 hb1 H2 hS1'
      go_wp2_with (at_builtin; refine wpList_append_boxW rfl _ _ _ rfl 3 _ 1 8 Try.underlying28 info3 rfl (by decide) ρ4 (22, 5) (.slice A5 T.siz.length c5) T.siz.length _ [.int .i64 j] rfl ho5 1 _ rfl (by simp) rfl (by simp [Value.oneCell']) (by unfold maxLen; omega) (by omega) ?z2)
      case z2 =>
      intro r2 w2 ρ5 hO2 hS2
      obtain ⟨g2, d2, rfl, _⟩ := hO2.some (by omega)
      have H3 := HH2.out.app5 hS2 hO2 (l := T.siz ++ [(j : Int)]) (by simp) (by simp [ints])
      have hS2' : Step RTag w ρ (w2.setCell ⟨a, 5, none⟩ (.slice (some ⟨g2, 0, none⟩) (T.siz.length + 1) d2)) ρ5 := (HS1.out.trans (hS2.mono (by rintro t rfl; simp [RTag]))).setCell H3.tag (by simp [RTag]) _
      have hb2 := hS2.blk' HH2.out.blk HH2.out.tag (by simp)
      have z5 := hb2.cell (i := 5) rfl
      have z5f := hb2.free 5
      have z6 := hb2.cell (i := 6) rfl
      have z6f := hb2.free 6
      have ho6 := H3.o6
      have HH3 := Hd.mk H3
      have HS2 := Hd.mk hS2'
      clear z4 z4f ho5 hO2 hS2 hb2 H3 hS2'
      go_wp2_with (at_builtin; refine wpList_append_boxW rfl _ _ _ rfl 3 _ 1 8 Try.underlying28 info3 rfl (by decide) ρ5 (22, 6) (.slice A6 T.reg.length c6) T.reg.length _ [.int .i64 i] rfl ho6 1 _ rfl (by simp) rfl (by simp [Value.oneCell']) (by unfold maxLen; omega) (by omega) ?z3)
      case z3 =>
      intro r3 w3 ρ6 hO3 hS3
      obtain ⟨g3, d3, rfl, _⟩ := hO3.some (by omega)
      have H4 := HH3.out.app6 hS3 hO3 (l := T.reg ++ [(i : Int)]) (by simp) (by simp [ints])
      have hS3' : Step RTag w ρ (w3.setCell ⟨a, 6, none⟩ (.slice (some ⟨g3, 0, none⟩) (T.reg.length + 1) d3)) ρ6 := (HS2.out.trans (hS3.mono (by rintro t rfl; simp [RTag]))).setCell H4.tag (by simp [RTag]) _
      have hb3 := hS3.blk' HH3.out.blk HH3.out.tag (by simp)
      have z6 := hb3.cell (i := 6) rfl
      have z6f := hb3.free 6
      have HH4 := Hd.mk H4
      have HS3 := Hd.mk hS3'
      clear z5 z5f ho6 hO3 hS3 hb3 H4 hS3'
      go_wp2
      go_ret2
      exact ⟨ρ6, rfl, ⟨_, _, _, _, _, _, _, _, HH4.out⟩, HS3.out⟩

end Go.Proofs.Ytgejmgomliadmaa
