/- The reference store in memory: Close, find, Get, Set, Words, Pages, Free. -/
import Derived.Test.YtgejmgomliadmaaRfA
set_option linter.unusedVariables false
namespace Go.Proofs.Ytgejmgomliadmaa
open Go Go.RowKit

theorem ints_set (l : List Int) (i : Nat) (v : Int) : ints (l.set i v) = (ints l).set i (.int .i64 v) := by simp [ints, List.map_set]
theorem bools_set (l : List Bool) (i : Nat) (v : Bool) : bools (l.set i v) = (bools l).set i (.bool v) := by simp [bools, List.map_set]

/-! ### Close -/
def closeF (n : Int) (x : Int) : Int := if x = n then -1 else x
def closeTo (own : List Int) (n : Int) (j : Nat) : List Int := (own.take j).map (closeF n) ++ own.drop j
theorem closeTo_length (own : List Int) (n : Int) (j : Nat) : (closeTo own n j).length = own.length := by simp [closeTo]; omega
theorem closeTo_get {own : List Int} {n : Int} {j : Nat} (hj : j < own.length) : (closeTo own n j).getD j 0 = own.getD j 0 := by
  simp only [closeTo, List.getD_eq_getElem?_getD]
  rw [List.getElem?_append_right (by simp; omega)]
  simp
  rw [Nat.min_eq_left (by omega), Nat.sub_self, Nat.add_zero]
theorem closeTo_succ {own : List Int} {n : Int} {j : Nat} (hj : j < own.length) : closeTo own n (j + 1) = (closeTo own n j).set j (closeF n (own.getD j 0)) := by
  apply List.ext_getElem?
  intro k
  simp only [closeTo, List.getElem?_set, List.getElem?_append, List.length_map, List.length_take, List.getElem?_map, List.getElem?_take, List.getElem?_drop, List.length_append, List.length_drop, List.getD_eq_getElem?_getD]
  rw [Nat.min_eq_left (show j + 1 ≤ own.length by omega), Nat.min_eq_left (show j ≤ own.length by omega)]
  by_cases h1 : k < j
  · rw [if_pos (by omega), if_pos (by omega), if_neg (by omega), if_pos h1, if_pos h1]
  · by_cases h2 : k = j
    · subst h2
      rw [if_pos (by omega), if_pos (by omega), if_pos rfl, if_pos (by omega), List.getElem?_eq_getElem hj]
      simp
    · rw [if_neg (by omega), if_neg (by omega), if_neg h1]
      congr 1
      omega
theorem closeTo_same {own : List Int} {n : Int} {j : Nat} (hj : j < own.length) (h : own.getD j 0 ≠ n) : closeTo own n (j + 1) = closeTo own n j := by
  rw [closeTo_succ hj, closeF, if_neg h, ← closeTo_get (n := n) hj]
  apply List.set_eq_of_get
  rw [List.getD_eq_getElem?_getD, List.getElem?_eq_getElem (by rw [closeTo_length]; exact hj)]
  rfl
def rClose (t : RSt) (n : Int) : RSt := { t with op := t.op.set n.toNat false, own := t.own.map (closeF n) }

theorem RClose_no (w : World) (ρ : Ghost) (a : Nat) (t : RSt) (H : RRep w ρ a t) (n : Int) (ho : rOpen t n = false) :
    Calls Try.prog 14 #[.pointer (some ⟨a, 0, none⟩), .int .i64 n] w fun e w' => e = .returned (.int .i64 70) ∧ w = w' := by
  have HC := isOpen_any w ρ a t H n
  rw [ho] at HC
  have HD := Hd.mk HC
  clear HC
  go_enter Try.func14, Try.ntmps14
  go_wp2_with fail
  refine HD.out.mono ?_
  rintro e w' ⟨rfl, rfl⟩
  go_wp2
  go_ret
  exact ⟨rfl, rfl⟩

theorem rOpen_some {t : RSt} {n : Int} (h : rOpen t n = true) : ∃ i : Nat, n = i ∧ i < t.op.length ∧ t.op.getD i false = true := by
  simp only [rOpen, Bool.and_eq_true, decide_eq_true_eq] at h
  obtain ⟨⟨h1, h2⟩, h3⟩ := h
  obtain ⟨i, rfl⟩ := Int.eq_ofNat_of_zero_le h1
  exact ⟨i, rfl, by omega, by simpa using h3⟩

set_option maxRecDepth 100000 in
theorem RClose_ok (w : World) (ρ : Ghost) (a : Nat) (t : RSt) (H : RRep w ρ a t) (n : Int) (ho : rOpen t n = true) (hl : t.own.length ≤ 1000000) :
    Calls Try.prog 14 #[.pointer (some ⟨a, 0, none⟩), .int .i64 n] w (RPost ρ a (rClose t n) (.int .i64 0) w) := by
  have HC := isOpen_any w ρ a t H n
  rw [ho] at HC
  have HD := Hd.mk HC
  obtain ⟨i, rfl, hi, hop⟩ := rOpen_some ho
  clear HC ho
  obtain ⟨v0, v1, v2, v3, v4, v5, v6, v7, H⟩ := H
  obtain ⟨g0, c0, rfl, hg0, _, _, hc0, hf0, hgl0⟩ := H.o0.some (by omega)
  obtain ⟨A3, c3, rfl, hm31, hm32⟩ := H.o3.form
  have x0 := H.blk.cell (i := 0) rfl
  have k0 := hc0 i (by omega)
  rw [bools_get hi, hop] at k0
  have k0f := hf0 i
  have HO1 := H.o0.set i (.bool false)
  rw [← bools_set] at HO1
  have hS1 : Step (· = (22, 0)) w ρ (w.setCell ⟨g0, i, none⟩ (.bool false)) ρ := Step.setCell (T := fun x => x = ((22, 0) : Tag)) (Step.refl _ w ρ) hg0 rfl _
  have H1 := H.upd0 hS1 HO1 (l := t.op.set i false) (by simp) rfl
  have y3 := H.blk.cell (i := 3) rfl
  have hne : a ≠ g0 := by rintro rfl; have := H.tag; rw [hg0] at this; cases this
  have HH1 := Hd.mk H1
  have hS1' : Step RTag w ρ (w.setCell ⟨g0, i, none⟩ (.bool false)) ρ := hS1.mono (by rintro t rfl; simp [RTag])
  have HS1 := Hd.mk hS1'
  have hii : (i : Int) < t.op.length := by omega
  clear H hc0 hf0 HO1 hS1 H1 hS1'
  go_enter Try.func14, Try.ntmps14
  go_wp2_with fail
  refine HD.out.mono ?_
  rintro e w' ⟨rfl, rfl⟩
  go_wp2
  generalize w.setCell ⟨g0, i, none⟩ (.bool false) = W1 at *
  go_loopw [5] (fun v wr => ∃ j : Nat, v = .int .i64 j ∧ j ≤ t.own.length ∧ RRepAt wr ρ a { t with op := t.op.set i false, own := closeTo t.own i j } (.slice (some ⟨g0, 0, none⟩) t.op.length c0) v1 v2 (.slice A3 t.own.length c3) v4 v5 v6 v7 ∧ Step RTag w ρ wr ρ) (fun v _ => t.own.length - (intOf v).toNat)
  case atStart => exact ⟨0, rfl, by omega, by simpa [closeTo] using HH1.out, HS1.out⟩
  case round =>
    obtain ⟨j, rfl, hj, HR, hS⟩ := hrel
    have z3 := HR.blk.cell (i := 3) rfl
    have HS := Hd.mk hS
    have HRR := Hd.mk HR
    have ho3 := HR.o3
    dsimp only at ho3
    rw [closeTo_length] at ho3
    by_cases hlt : j < t.own.length
    · obtain ⟨g3, c3', hv, hg3, _, _, hc3, hf3, hgl3⟩ := ho3.some (by omega)
      cases hv
      have q := hc3 j (by omega)
      have qf := hf3 j
      rw [ints_get (by rw [closeTo_length]; exact hlt), closeTo_get hlt] at q
      have hset := ho3.set j (.int .i64 (-1))
      rw [← ints_set] at hset
      have HSET := Hd.mk hset
      clear hset
      generalize hx : t.own.getD j 0 = x at *
      have HX := Hd.mk hx
      clear hx hc3 hf3 ho3 HR hS x0
      by_cases hxn : x = (i : Int)
      · have hb : (x == (i : Int)) = true := by simpa using hxn
        have HXN := Hd.mk hxn
        clear hxn
        go_wp2
        go_roundw
        case rel =>
          refine ⟨j + 1, by go_num, by omega, ?_, HS.out.setCell hg3 (by simp [RTag]) _⟩
          have hS3 : Step (· = (22, 3)) wr ρ (wr.setCell ⟨g3, j, none⟩ (.int .i64 (-1))) ρ := Step.setCell (T := fun x => x = ((22, 3) : Tag)) (Step.refl _ wr ρ) hg3 rfl _
          have := HRR.out.upd3 hS3 (l := closeTo t.own i (j + 1)) HSET.out (by rw [closeTo_length]) (by rw [closeTo_succ hlt, closeF, HX.out, if_pos HXN.out])
          exact this
        case measure => simp [intOf]; omega
      · have hb : (x == (i : Int)) = false := by simpa using hxn
        have HXN := Hd.mk hxn
        clear hxn
        go_wp2
        go_roundw
        case rel =>
          refine ⟨j + 1, by go_num, by omega, ?_, HS.out⟩
          rw [closeTo_same hlt (by rw [HX.out]; exact HXN.out)]
          exact HRR.out
        case measure => simp [intOf]; omega
    · have hj' : j = t.own.length := by omega
      have HJ := Hd.mk hj'
      clear hj' ho3 HR hS
      go_wp2
      go_ret
      have h := HRR.out
      rw [HJ.out, closeTo, List.take_length, List.drop_length, List.append_nil] at h
      have e : rClose t i = { t with op := t.op.set i false, own := t.own.map (closeF i) } := by simp [rClose]
      have hfin : RRep wr ρ a (rClose t i) := by
        rw [e]
        exact ⟨_, _, _, _, _, _, _, _, h⟩
      exact ⟨ρ, by rfl, hfin, HS.out⟩

/-! ### find -/
def rHit (t : RSt) (n x : Int) (k : Nat) : Bool := decide (t.reg.getD k 0 = n) && decide (t.beg.getD k 0 = x)
def rFindK (t : RSt) (n x : Int) : Option Nat := (List.range t.beg.length).find? (rHit t n x)
def rFind (t : RSt) (n x f : Int) : Int :=
  if rOpen t n then (match rFindK t n x with | none => 71 | some k => if f < 0 ∨ t.siz.getD k 0 ≤ f then 72 else 0) else 70
theorem rFindK_some {t : RSt} {n x : Int} {k : Nat} (hk : k < t.beg.length) (h : rHit t n x k = true) (hn : ∀ j, j < k → rHit t n x j = false) : rFindK t n x = some k := by
  rw [rFindK, List.find?_range_eq_some]
  exact ⟨h, List.mem_range.2 hk, fun j hj => by simp [hn j hj]⟩
theorem rFindK_none {t : RSt} {n x : Int} (hn : ∀ j, j < t.beg.length → rHit t n x j = false) : rFindK t n x = none := by
  rw [rFindK, List.find?_eq_none]
  intro j hj
  simp [hn j (List.mem_range.1 hj)]

theorem RFind_any (w : World) (ρ : Ghost) (a : Nat) (t : RSt) (H : RRep w ρ a t) (n x f : Int) (hl : t.beg.length ≤ 1000000) (hr : t.reg.length = t.beg.length) (hs : t.siz.length = t.beg.length) :
    Calls Try.prog 41 #[.pointer (some ⟨a, 0, none⟩), .int .i64 n, .int .i64 x, .int .i64 f] w fun e w' => e = .returned (.int .i64 (rFind t n x f)) ∧ w = w' := by
  have HC := isOpen_any w ρ a t H n
  cases ho : rOpen t n with
  | false =>
    rw [ho] at HC
    have HD := Hd.mk HC
    have HO := Hd.mk ho
    clear HC ho
    go_enter Try.func41, Try.ntmps41
    go_wp2_with fail
    refine HD.out.mono ?_
    rintro e w' ⟨rfl, rfl⟩
    go_wp2
    go_ret
    refine ⟨?_, rfl⟩
    rw [rFind, HO.out]
    rfl
  | true =>
    rw [ho] at HC
    have HD := Hd.mk HC
    have HO := Hd.mk ho
    obtain ⟨v0, v1, v2, v3, v4, v5, v6, v7, H⟩ := H
    obtain ⟨A4, c4, rfl, hm1, hm2⟩ := H.o4.form
    have x4 := H.blk.cell (i := 4) rfl
    have x5 := H.blk.cell (i := 5) rfl
    have x6 := H.blk.cell (i := 6) rfl
    have ho4 := H.o4
    have ho5 := H.o5
    have ho6 := H.o6
    rw [hs] at ho5
    rw [hr] at ho6
    clear HC ho H
    go_enter Try.func41, Try.ntmps41
    go_wp2_with fail
    refine HD.out.mono ?_
    rintro e w' ⟨rfl, rfl⟩
    go_wp2
    go_loop [9] (fun v => ∃ j : Nat, v = .int .i64 j ∧ j ≤ t.beg.length ∧ (∀ q, q < j → rHit t n x q = false)) (fun v => t.beg.length - (intOf v).toNat)
    case atStart => exact ⟨0, rfl, by omega, fun q hq => by omega⟩
    case round =>
      obtain ⟨j, rfl, hj, hno⟩ := hrel
      have HNO := Hd.mk hno
      clear hno
      by_cases hlt : j < t.beg.length
      · obtain ⟨g4, c4', hv, _, _, _, hc4, _, _⟩ := ho4.some (by omega)
        cases hv
        obtain ⟨g5, c5, rfl, _, _, _, hc5, _, _⟩ := ho5.some (by omega)
        obtain ⟨g6, c6, rfl, _, _, _, hc6, _, _⟩ := ho6.some (by omega)
        have q4 := hc4 j (by omega)
        have q5 := hc5 j (by omega)
        have q6 := hc6 j (by omega)
        rw [ints_get hlt] at q4
        rw [ints_get (by omega)] at q5 q6
        have HH : Hd (rHit t n x j = (decide (t.reg.getD j 0 = n) && decide (t.beg.getD j 0 = x))) := ⟨rfl⟩
        have HS5 : Hd (t.siz.getD j 0 = t.siz.getD j 0) := ⟨rfl⟩
        generalize hb : t.beg.getD j 0 = b at *
        generalize hr' : t.reg.getD j 0 = r at *
        generalize hs' : t.siz.getD j 0 = s at *
        have HB := Hd.mk hb
        have HR := Hd.mk hr'
        have HSS := Hd.mk hs'
        clear hb hr' hs' hc4 hc5 hc6 ho4 ho5 ho6
        by_cases h1 : r = n
        · have hb1 : (r == n) = true := by simpa using h1
          have H1 := Hd.mk h1
          by_cases h2 : b = x
          · have hb2 : (b == x) = true := by simpa using h2
            have H2 := Hd.mk h2
            clear h1 h2
            have hk : Hd (rFindK t n x = some j) := ⟨rFindK_some hlt (by rw [HH.out, H1.out, H2.out]; simp) HNO.out⟩
            by_cases h3 : f < 0
            · go_wp2
              go_ret
              refine ⟨?_, rfl⟩
              have e : rFind t n x f = 72 := by
                unfold rFind
                rw [HO.out, hk.out, if_pos rfl]
                dsimp only
                rw [HSS.out, if_pos (Or.inl h3)]
              rw [e]
              rfl
            · by_cases h4 : s ≤ f
              · go_wp2
                go_ret
                refine ⟨?_, rfl⟩
                have e : rFind t n x f = 72 := by
                  unfold rFind
                  rw [HO.out, hk.out, if_pos rfl]
                  dsimp only
                  rw [HSS.out, if_pos (Or.inr h4)]
                rw [e]
                rfl
              · go_wp2
                go_ret
                refine ⟨?_, rfl⟩
                have e : rFind t n x f = 0 := by
                  unfold rFind
                  rw [HO.out, hk.out, if_pos rfl]
                  dsimp only
                  rw [HSS.out, if_neg (by omega)]
                rw [e]
                rfl
          · have hb2 : (b == x) = false := by simpa using h2
            have H2 := Hd.mk h2
            clear h1 h2
            go_wp2
            go_round
            case rel =>
              refine ⟨j + 1, by go_num, by omega, fun q hq => ?_⟩
              rcases Nat.lt_succ_iff_lt_or_eq.1 hq with hq | rfl
              · exact HNO.out q hq
              · rw [HH.out, decide_eq_false H2.out, Bool.and_false]
            case measure => simp [intOf]; omega
        · have hb1 : (r == n) = false := by simpa using h1
          have H1 := Hd.mk h1
          clear h1
          go_wp2
          go_round
          case rel =>
            refine ⟨j + 1, by go_num, by omega, fun q hq => ?_⟩
            rcases Nat.lt_succ_iff_lt_or_eq.1 hq with hq | rfl
            · exact HNO.out q hq
            · rw [HH.out, decide_eq_false H1.out, Bool.false_and]
          case measure => simp [intOf]; omega
      · have HK : Hd (rFindK t n x = none) := ⟨rFindK_none (fun q hq => HNO.out q (by omega))⟩
        clear ho4 ho5 ho6
        go_wp2
        go_ret
        refine ⟨?_, rfl⟩
        rw [rFind, HO.out, HK.out]
        rfl

end Go.Proofs.Ytgejmgomliadmaa
