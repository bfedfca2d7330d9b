/- The reference store in memory: Get, Set, Words, Pages, Free. -/
import Derived.Test.YtgejmgomliadmaaRfB
set_option linter.unusedVariables false
namespace Go.Proofs.Ytgejmgomliadmaa
open Go Go.RowKit

structure RFine (t : RSt) : Prop where
  beg : t.beg.length ≤ 1000
  reg : t.reg.length = t.beg.length
  siz : t.siz.length = t.beg.length
  cur : t.cur.length = t.op.length
  fil : t.fil.length = t.op.length
  op : t.op.length ≤ 1000
  own : t.own.length ≤ 200000
  dat : t.dat.length = t.own.length * 16
  sizb : ∀ x ∈ t.siz, 0 ≤ x ∧ x ≤ 5000
  regb : ∀ x ∈ t.reg, 0 ≤ x ∧ x < t.op.length
theorem all_getD {l : List Int} {P : Int → Prop} (h : ∀ x ∈ l, P x) {k : Nat} (hk : k < l.length) : P (l.getD k 0) := by
  rw [List.getD_eq_getElem?_getD, List.getElem?_eq_getElem hk]
  exact h _ (List.getElem_mem hk)

theorem RGet_err (w : World) (ρ : Ghost) (a : Nat) (t : RSt) (H : RRep w ρ a t) (hF : RFine t) (n x f : Int) (he : rFind t n x f ≠ 0) :
    Calls Try.prog 18 #[.pointer (some ⟨a, 0, none⟩), .int .i64 n, .int .i64 x, .int .i64 f] w fun e w' => e = .returned (.tuple #[.int .i64 0, .int .i64 (rFind t n x f)]) ∧ w = w' := by
  have HC := Hd.mk (RFind_any w ρ a t H n x f (Nat.le_trans hF.beg (by decide)) hF.reg hF.siz)
  generalize rFind t n x f = r at *
  have hb : (r != 0) = true := by simpa using he
  have hb2 : (r == 0) = false := by simpa using he
  clear H he
  go_enter Try.func18, Try.ntmps18
  go_wp2_with fail
  refine HC.out.mono ?_
  rintro e w' ⟨rfl, rfl⟩
  go_wp2
  go_ret2
  exact ⟨rfl, rfl⟩
theorem RGet_ok (w : World) (ρ : Ghost) (a : Nat) (t : RSt) (H : RRep w ρ a t) (hF : RFine t) (n x f : Int) (he : rFind t n x f = 0) (p : Nat) (hp : x + f = p) (hpl : p < t.dat.length) :
    Calls Try.prog 18 #[.pointer (some ⟨a, 0, none⟩), .int .i64 n, .int .i64 x, .int .i64 f] w fun e w' => e = .returned (.tuple #[.int .i64 (t.dat.getD p 0), .int .i64 0]) ∧ w = w' := by
  have HC0 := RFind_any w ρ a t H n x f (Nat.le_trans hF.beg (by decide)) hF.reg hF.siz
  rw [he] at HC0
  have HC := Hd.mk HC0
  have hdl := hF.dat
  have hol := hF.own
  obtain ⟨v0, v1, v2, v3, v4, v5, v6, v7, H⟩ := H
  obtain ⟨g7, c7, rfl, _, _, _, hc7, _, _⟩ := H.o7.some (by omega)
  have x7 := H.blk.cell (i := 7) rfl
  have q7 := hc7 p (by omega)
  rw [ints_get hpl] at q7
  have HP := Hd.mk hp
  have hxf : x = p - f := by omega
  generalize t.dat.getD p 0 = y at *
  generalize t.dat.length = m at *
  clear H hc7 HC0 he hp
  have hpb : p ≤ 5000000 := by omega
  have HX := Hd.mk hxf
  have hw : IntKind.i64.wrap (x + f) = p := by rw [HP.out]; exact IntWalk.i64_in _ (by omega)
  clear hxf
  go_enter Try.func18, Try.ntmps18
  go_wp2_with fail
  refine HC.out.mono ?_
  rintro e w' ⟨rfl, rfl⟩
  go_wp2
  go_ret2
  exact ⟨rfl, rfl⟩

theorem RSet_err (w : World) (ρ : Ghost) (a : Nat) (t : RSt) (H : RRep w ρ a t) (hF : RFine t) (n x f v : Int) (he : rFind t n x f ≠ 0) :
    Calls Try.prog 20 #[.pointer (some ⟨a, 0, none⟩), .int .i64 n, .int .i64 x, .int .i64 f, .int .i64 v] w fun e w' => e = .returned (.int .i64 (rFind t n x f)) ∧ w = w' := by
  have HC := Hd.mk (RFind_any w ρ a t H n x f (Nat.le_trans hF.beg (by decide)) hF.reg hF.siz)
  generalize rFind t n x f = r at *
  have hb : (r != 0) = true := by simpa using he
  have hb2 : (r == 0) = false := by simpa using he
  clear H he
  go_enter Try.func20, Try.ntmps20
  go_wp2_with fail
  refine HC.out.mono ?_
  rintro e w' ⟨rfl, rfl⟩
  go_wp2
  go_ret
  exact ⟨rfl, rfl⟩
theorem RSet_ok (w : World) (ρ : Ghost) (a : Nat) (t : RSt) (H : RRep w ρ a t) (hF : RFine t) (n x f v : Int) (he : rFind t n x f = 0) (p : Nat) (hp : x + f = p) (hpl : p < t.dat.length) :
    Calls Try.prog 20 #[.pointer (some ⟨a, 0, none⟩), .int .i64 n, .int .i64 x, .int .i64 f, .int .i64 v] w (RPost ρ a { t with dat := t.dat.set p v } (.int .i64 0) w) := by
  have HC0 := RFind_any w ρ a t H n x f (Nat.le_trans hF.beg (by decide)) hF.reg hF.siz
  rw [he] at HC0
  have HC := Hd.mk HC0
  have hdl := hF.dat
  have hol := hF.own
  obtain ⟨v0, v1, v2, v3, v4, v5, v6, v7, H⟩ := H
  obtain ⟨g7, c7, rfl, hg7, _, _, hc7, hf7, _⟩ := H.o7.some (by omega)
  have x7 := H.blk.cell (i := 7) rfl
  have q7 := hc7 p (by omega)
  have q7f := hf7 p
  rw [ints_get hpl] at q7
  have hS7 : Step (· = (22, 7)) w ρ (w.setCell ⟨g7, p, none⟩ (.int .i64 v)) ρ := Step.setCell (T := fun x => x = ((22, 7) : Tag)) (Step.refl _ w ρ) hg7 rfl _
  have hset := H.o7.set p (.int .i64 v)
  rw [← ints_set] at hset
  have HFIN := Hd.mk (H.upd7 hS7 hset (l := t.dat.set p v) (by simp) rfl)
  have HST := Hd.mk hS7
  have HP := Hd.mk hp
  generalize t.dat.getD p 0 = y at *
  have hpb : p < t.dat.length := hpl
  have hpb2 : p ≤ 5000000 := by omega
  have hw : IntKind.i64.wrap (x + f) = p := by rw [HP.out]; exact IntWalk.i64_in _ (by omega)
  clear H hc7 HC0 he hp hS7 hset hf7 hdl
  generalize t.dat.length = m at *
  go_enter Try.func20, Try.ntmps20
  go_wp2_with fail
  refine HC.out.mono ?_
  rintro e w' ⟨rfl, rfl⟩
  go_wp2
  go_ret
  exact ⟨ρ, by rfl, ⟨_, _, _, _, _, _, _, _, HFIN.out⟩, HST.out.mono (by rintro t rfl; simp [RTag])⟩

/-! ### Words -/
def rWordAt (t : RSt) (k : Nat) : Int := if t.op.getD (t.reg.getD k 0).toNat false then t.siz.getD k 0 else 0
def rWordsTo (t : RSt) (j : Nat) : Int := ((List.range j).map (rWordAt t)).sum
def rWords (t : RSt) : Int := rWordsTo t t.beg.length
theorem rWordsTo_succ (t : RSt) (j : Nat) : rWordsTo t (j + 1) = rWordsTo t j + rWordAt t j := by simp [rWordsTo, List.range_succ]
theorem rWordsTo_le {t : RSt} (hF : RFine t) (j : Nat) (hj : j ≤ t.beg.length) : 0 ≤ rWordsTo t j ∧ rWordsTo t j ≤ 5000 * j := by
  induction j with
  | zero => simp [rWordsTo]
  | succ j ih =>
    have h := ih (by omega)
    have hs := all_getD hF.sizb (k := j) (by rw [hF.siz]; omega)
    rw [rWordsTo_succ]
    unfold rWordAt
    split <;> omega
theorem RWords_any (w : World) (ρ : Ghost) (a : Nat) (t : RSt) (H : RRep w ρ a t) (hF : RFine t) :
    Calls Try.prog 22 #[.pointer (some ⟨a, 0, none⟩)] w fun e w' => ∃ n, e = .returned (.int .i64 (rWords t)) ∧ w' = w.drewN n := by
  obtain ⟨v0, v1, v2, v3, v4, v5, v6, v7, H⟩ := H
  obtain ⟨A4, c4, rfl, hm1, hm2⟩ := H.o4.form
  have x0 := H.blk.cell (i := 0) rfl
  have x4 := H.blk.cell (i := 4) rfl
  have x5 := H.blk.cell (i := 5) rfl
  have x6 := H.blk.cell (i := 6) rfl
  have hbl := hF.beg
  have HF := Hd.mk hF
  have HH := Hd.mk H
  clear H hF
  go_enter Try.func22, Try.ntmps22
  go_wp2
  go_loopw [3, 4] (fun s v wr => ∃ j n : Nat, v = .int .i64 j ∧ s = .int .i64 (rWordsTo t j) ∧ j ≤ t.beg.length ∧ wr = w.drewN n) (fun _ v _ => t.beg.length - (intOf v).toNat)
  case atStart => exact ⟨0, 0, rfl, rfl, by omega, rfl⟩
  case round =>
    obtain ⟨j, n, rfl, rfl, hj, rfl⟩ := hrel
    have hwl := rWordsTo_le HF.out j hj
    obtain ⟨hw1, hw2⟩ := hwl
    by_cases hlt : j < t.beg.length
    · have hrl := HF.out.reg
      have hsl := HF.out.siz
      have hrb := all_getD HF.out.regb (k := j) (by omega)
      have hsb := all_getD HF.out.sizb (k := j) (by omega)
      obtain ⟨g0, c0, e0, _, hc01, hc02, hc0, _, _⟩ := HH.out.o0.some (by omega)
      obtain ⟨g5, c5, e5, _, hc51, hc52, hc5, _, _⟩ := HH.out.o5.some (by omega)
      obtain ⟨g6, c6, e6, _, hc61, hc62, hc6, _, _⟩ := HH.out.o6.some (by omega)
      rw [e0] at x0
      rw [e5] at x5
      rw [e6] at x6
      have q6 := hc6 j (by omega)
      have q5 := hc5 j (by omega)
      rw [ints_get (by omega)] at q5 q6
      have HSUC := Hd.mk (rWordsTo_succ t j)
      have HWA : Hd (rWordAt t j = if t.op.getD (t.reg.getD j 0).toNat false then t.siz.getD j 0 else 0) := ⟨rfl⟩
      generalize t.reg.getD j 0 = r at *
      generalize t.siz.getD j 0 = s at *
      obtain ⟨hr1, hr2⟩ := hrb
      obtain ⟨hs1, hs2⟩ := hsb
      obtain ⟨r, rfl⟩ := Int.eq_ofNat_of_zero_le hr1
      have hr3 : r < t.op.length := by omega
      have q0 := hc0 r (by omega)
      rw [bools_get hr3] at q0
      rw [Int.toNat_natCast] at HWA
      generalize t.op.getD r false = b at *
      generalize rWordsTo t j = z at *
      clear e0 e5 e6 hc0 hc5 hc6 HH HF
      have hj2 : j ≤ 1000 := by omega
      go_wp2_with fail
      go_quiet (fail)
      cases b with
      | true =>
        go_wp2
        go_roundw
        case rel =>
          refine ⟨j + 1, n + nq, by go_num, ?_, by omega, rfl⟩
          rw [HSUC.out, HWA.out, if_pos rfl]
        case measure => simp [intOf]; omega
      | false =>
        go_wp2
        go_roundw
        case rel =>
          refine ⟨j + 1, n + nq, by go_num, ?_, by omega, rfl⟩
          rw [HSUC.out, HWA.out, if_neg (by simp), Int.add_zero]
        case measure => simp [intOf]; omega
    · have hj' : j = t.beg.length := by omega
      have HJ := Hd.mk hj'
      clear hj'
      go_wp2
      go_ret
      refine ⟨n, ?_, rfl⟩
      rw [rWords, ← HJ.out]
      rfl

/-! ### Pages, Free -/
def rPagesTo (l : List Int) (j : Nat) : Nat := ((l.take j).filter (fun x => decide (0 ≤ x))).length
def rPages (t : RSt) : Nat := rPagesTo t.own t.own.length
theorem rPagesTo_succ {l : List Int} {j : Nat} (h : j < l.length) : rPagesTo l (j + 1) = rPagesTo l j + if 0 ≤ l.getD j 0 then 1 else 0 := by
  simp only [rPagesTo, List.take_add_one, List.getElem?_eq_getElem h, Option.toList_some, List.filter_append, List.length_append, List.getD_eq_getElem?_getD, Option.getD_some]
  by_cases h0 : 0 ≤ l[j] <;> simp [h0]
theorem rPagesTo_le (l : List Int) (j : Nat) : rPagesTo l j ≤ j := by
  have := List.length_filter_le (fun x : Int => decide (0 ≤ x)) (l.take j)
  simp only [rPagesTo, List.length_take] at this ⊢
  omega
theorem RPages_any (w : World) (ρ : Ghost) (a : Nat) (t : RSt) (H : RRep w ρ a t) (hF : RFine t) :
    Calls Try.prog 24 #[.pointer (some ⟨a, 0, none⟩)] w fun e w' => e = .returned (.int .i64 (rPages t)) ∧ w = w' := by
  obtain ⟨v0, v1, v2, v3, v4, v5, v6, v7, H⟩ := H
  obtain ⟨A3, c3, rfl, hm1, hm2⟩ := H.o3.form
  have x3 := H.blk.cell (i := 3) rfl
  have hbl := hF.own
  have ho3 := H.o3
  clear H hF
  go_enter Try.func24, Try.ntmps24
  go_wp2
  go_loop [3, 4] (fun s v => ∃ j : Nat, v = .int .i64 j ∧ s = .int .i64 (rPagesTo t.own j) ∧ j ≤ t.own.length) (fun _ v => t.own.length - (intOf v).toNat)
  case atStart => exact ⟨0, rfl, rfl, by omega⟩
  case round =>
    obtain ⟨j, rfl, rfl, hj⟩ := hrel
    have hwl := rPagesTo_le t.own j
    by_cases hlt : j < t.own.length
    · obtain ⟨g3, c3', hv, _, _, _, hc3, _, _⟩ := ho3.some (by omega)
      cases hv
      have q3 := hc3 j (by omega)
      rw [ints_get hlt] at q3
      have HSUC := Hd.mk (rPagesTo_succ hlt)
      generalize t.own.getD j 0 = x at *
      generalize rPagesTo t.own j = z at *
      clear hc3 ho3
      by_cases h0 : 0 ≤ x
      · go_wp2
        go_round
        case rel =>
          refine ⟨j + 1, by go_num, ?_, by omega⟩
          rw [HSUC.out, if_pos h0]
          go_num
        case measure => simp [intOf]; omega
      · go_wp2
        go_round
        case rel =>
          refine ⟨j + 1, by go_num, ?_, by omega⟩
          rw [HSUC.out, if_neg h0]
          rfl
        case measure => simp [intOf]; omega
    · have hj' : j = t.own.length := by omega
      have HJ := Hd.mk hj'
      clear hj' ho3
      go_wp2
      go_ret
      refine ⟨?_, rfl⟩
      rw [rPages, ← HJ.out]
      rfl
theorem RFree_any (w : World) (ρ : Ghost) (a : Nat) (t : RSt) (H : RRep w ρ a t) (hF : RFine t) :
    Calls Try.prog 26 #[.pointer (some ⟨a, 0, none⟩)] w fun e w' => ∃ n, e = .returned (.int .i64 ((t.own.length : Int) - rPages t)) ∧ w' = w.drewN n := by
  have hC : ∀ w' : World, w'.heap = w.heap → Calls Try.prog 24 #[.pointer (some ⟨a, 0, none⟩)] w' fun e w2 => e = .returned (.int .i64 (rPages t)) ∧ w2 = w' := by
    intro w' hw
    have H' : RRep w' ρ a t := by
      obtain ⟨v0, v1, v2, v3, v4, v5, v6, v7, H⟩ := H
      have hb : ∀ {b : Nat} {T : TypeId} {L : List Value}, Blk w b T L → Blk w' b T L := fun h => h.of_heap (by rw [hw])
      have ho : ∀ {t : Tag} {e : TypeId} {sz : Nat} {v : Value} {n : Nat} {xs : List Value}, OwnSl w ρ t e sz v n xs → OwnSl w' ρ t e sz v n xs := by
        intro t e sz v n xs h
        refine ⟨h.1, ?_⟩
        rcases h.2 with h | ⟨g, cap, L, h0, hr, hb0, h1⟩
        · exact .inl h
        · exact .inr ⟨g, cap, L, h0, hr, hb hb0, h1⟩
      exact ⟨v0, v1, v2, v3, v4, v5, v6, v7, ⟨hb H.blk, H.tag, ho H.o0, ho H.o1, ho H.o2, ho H.o3, ho H.o4, ho H.o5, ho H.o6, ho H.o7⟩⟩
    exact (RPages_any w' ρ a t H' hF).mono (fun e w2 ⟨h1, h2⟩ => ⟨h1, h2.symm⟩)
  have HC := Hd.mk hC
  have hpl := rPagesTo_le t.own t.own.length
  have hbl := hF.own
  obtain ⟨v0, v1, v2, v3, v4, v5, v6, v7, H⟩ := H
  obtain ⟨A3, c3, rfl, hm1, hm2⟩ := H.o3.form
  have x3 := H.blk.cell (i := 3) rfl
  have e1 : IntKind.i64.wrap ((t.own.length : Int) - rPages t) = (t.own.length : Int) - rPages t := IntWalk.i64_in _ (by unfold rPages; omega)
  generalize rPages t = z at *
  clear H hC
  go_enter Try.func26, Try.ntmps26
  go_wp2_with fail
  go_quiet ((go_at_call 24; exact Calls.quiet_of_same (HC.out _ rfl)))
  go_wp2
  go_ret
  exact ⟨nq, by rfl, rfl⟩

end Go.Proofs.Ytgejmgomliadmaa
