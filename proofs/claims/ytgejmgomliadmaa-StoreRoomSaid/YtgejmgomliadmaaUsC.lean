/- The laws' user: what she does. -/
import Derived.Test.YtgejmgomliadmaaUsB
set_option linter.unusedVariables false
namespace Go.Proofs.Ytgejmgomliadmaa
open Go Go.RowKit

def WPost (ρ : Ghost) (u : Nat) (S : USt) (w : World) (e : Ending) (w' : World) : Prop := ∃ S' ρ', e = .returned (.bool true) ∧ URep w' ρ' u S' ∧ UMove S S' ∧ Step UTag w ρ w' ρ'
theorem stag_utag : ∀ t, STag t → UTag t := fun _ h => .inl h
theorem utag_ge {t : Tag} (h1 : 10 ≤ t.1) (h2 : t.1 ≤ 13) : UTag t := .inr ⟨h1, h2⟩
theorem not_stag {t : Tag} (h : 10 ≤ t.1) : ¬ STag t := by unfold STag; omega
/-- All but the store is as it was behind a call of the store. -/
theorem URepAt.store {w w1 : World} {ρ ρ1 : Ghost} {u a : Nat} {S : USt} {ko kc : Nat} {vo vc : Value} (h : URepAt w ρ u a S ko kc vo vc) (hs : Step STag w ρ w1 ρ1) {s' : PSt} (hr : Rep w1 ρ1 a s') : URepAt w1 ρ1 u a { S with s := s' } ko kc vo vc where
  blk := hs.blk' h.blk h.tag (not_stag (by simp))
  tag := hs.tag h.blk.lt h.tag
  st := hr
  o := h.o.step hs (not_stag (by simp))
  c := h.c.step hs (not_stag (by simp))
  f := fun c hc => ⟨hs.blk' (h.f c hc).1 (h.f c hc).2 (not_stag (by simp)), hs.tag (h.f c hc).1.lt (h.f c hc).2⟩
  nd := h.nd
theorem URepAt.step0 {w w1 : World} {ρ ρ1 : Ghost} {u a : Nat} {S : USt} {ko kc : Nat} {vo vc : Value} (h : URepAt w ρ u a S ko kc vo vc) (hs : Step (fun _ => False) w ρ w1 ρ1) : URepAt w1 ρ1 u a S ko kc vo vc := by
  have := h.store (hs.mono (fun _ h => h.elim)) (h.st.step' hs (fun _ _ h => h))
  exact this
set_option maxRecDepth 100000 in
set_option maxHeartbeats 2000000 in
theorem With_open1 {N : Nat} (w : World) (ρ : Ghost) (u a : Nat) (S : USt) (ko kc : Nat) (vo vc : Value) (H : URepAt w ρ u a S ko kc vo vc) (hI : UInv N S) (hN : N + 1 ≤ 200) (hfr : Fresh w ρ) (d : Nat) (hd : d < 256) (r n ad f v : Int) (hm : d % 8 ≠ 0) (hz : S.opn.length = 0) :
    Calls Try.prog 27 #[.pointer (some ⟨u, 0, none⟩), .agg #[.int .u8 d, .int .i64 r, .int .i64 n, .int .i64 ad, .int .i64 f, .int .i64 v]] w (WPost ρ u S w) := by
  obtain ⟨Ao, co, rfl, ho1, ho2⟩ := H.o.form
  have hnl := hI.nopn
  have hs0 := (Step.refl (fun _ => False) w ρ).alloc (.cells #[.int .u8 d, .int .i64 r, .int .i64 n, .int .i64 ad, .int .i64 f, .int .i64 v] 34)
  have H0 := H.step0 hs0
  have S0 := Hd.mk ((Step.refl UTag w ρ).alloc (.cells #[.int .u8 d, .int .i64 r, .int .i64 n, .int .i64 ad, .int .i64 f, .int .i64 v] 34))
  have X := Hd.mk (Blk.new' w #[.int .u8 d, .int .i64 r, .int .i64 n, .int .i64 ad, .int .i64 f, .int .i64 v] 34)
  have X0 : Hd (ρ w.heap.size = none) := ⟨hfr _ (Nat.le_refl _)⟩
  have FR := Hd.mk ((Step.refl UTag w ρ).alloc (.cells #[.int .u8 d, .int .i64 r, .int .i64 n, .int .i64 ad, .int .i64 f, .int .i64 v] 34) |>.fresh hfr)
  have hlen : S.opn.length ≤ 200 := by omega
  have HI := Hd.mk hI
  have hmany := hI.many
  have hreg := hI.good.nreg
  have x0 := H0.blk.cell (i := 0) rfl
  have x2 := H0.blk.cell (i := 2) rfl
  obtain ⟨m8, hm8⟩ : ∃ m8 : Int, (d : Int).tmod 8 = m8 := ⟨_, rfl⟩
  have hm9 : m8 ≠ 0 := by rw [← hm8, Int.tmod_eq_emod_of_nonneg (by omega)]; omega
  have em : ((S.opn.length : Nat) : Int) = 0 := by omega
  have H1 := Hd.mk H0
  clear H0 H hI hs0 hfr
  go_enter Try.func27, Try.ntmps27
  go_wp2_with fail
  generalize w.alloc (.cells #[.int .u8 d, .int .i64 r, .int .i64 n, .int .i64 ad, .int .i64 f, .int .i64 v] 34) = W at *
  generalize w.heap.size = Xb at *
  have hop := Open_any W ρ a S.s H1.out.st (by omega)
  rw [← hmany] at hop
  refine hop.mono ?_
  have HM := Hd.mk hmany
  have hmb : S.many ≤ 200 := by omega
  clear hop x0 x2 em hmany
  try clear hz
  rintro e W1 ⟨ρ1, rfl, R1, hs1⟩
  have H2 := H1.out.store hs1 R1
  have S1 := Hd.mk (S0.out.trans (hs1.mono stag_utag))
  have x2 : W1.cell? ⟨u, 2, none⟩ = some (.slice Ao S.opn.length co) := H2.blk.cell (i := 2) rfl
  have x2f := H2.blk.free 2
  have ho : OwnSl W1 ρ1 (11, ko) 3 1 (.slice Ao S.opn.length co) S.opn.length (ints S.opn) := H2.o
  have HH2 := Hd.mk H2
  clear H2 R1 hs1
  go_wp2_with (at_builtin; refine wpList_append_boxW rfl _ _ _ rfl 3 _ 1 8 Try.underlying28 info3 rfl (by decide) ρ1 (11, ko) (.slice Ao S.opn.length co) S.opn.length _ [.int .i64 S.many] rfl ho 1 _ rfl (by first | rfl | simp) rfl (by simp [Value.oneCell']) (by unfold maxLen; omega) (by omega) ?z1)
  case z1 =>
  intro u1 W2 ρ2 hO1 hS1
  obtain ⟨g1, d1, rfl, _⟩ := hO1.some (by omega)
  have hb2 := hS1.blk' HH2.out.blk HH2.out.tag (by simp)
  have ht2 := hS1.tag HH2.out.blk.lt HH2.out.tag
  have hcs2 := HH2.out.c.step hS1 (by simp)
  have hst2 := HH2.out.st.step' hS1 (by rintro t h1 rfl; exact not_stag (by simp) h1)
  have hff2 : ∀ c ∈ S.cs, Blk W2 c.g 2 (ints c.fs) ∧ ρ2 c.g = some (13, 0) := fun c hc => ⟨hS1.blk' (HH2.out.f c hc).1 (HH2.out.f c hc).2 (by simp), hS1.tag (HH2.out.f c hc).1.lt (HH2.out.f c hc).2⟩
  have S2 := Hd.mk (S1.out.trans (hS1.mono (by rintro t rfl; exact utag_ge (by simp) (by simp))))
  have y2 := hb2.cell (i := 2) rfl
  have y2f := hb2.free 2
  have y1 := hb2.cell (i := 1) rfl
  have y1f := hb2.free 1
  have hb3 := (hb2.setCell 2 (.slice (some ⟨g1, 0, none⟩) (S.opn.length + 1) d1)).setCell 1 (.int .i64 ((S.many + 1 : Nat) : Int))
  have HB3 := Hd.mk hb3
  have HT2 := Hd.mk ht2
  have HC2 := Hd.mk hcs2
  have HST2 := Hd.mk hst2
  have HF2 := Hd.mk hff2
  have HO2 := Hd.mk hO1
  have e1 : IntKind.i64.wrap ((S.many : Int) + 1) = ((S.many + 1 : Nat) : Int) := by rw [IntWalk.i64_in _ (by omega)]; omega
  clear x2 x2f ho hO1 hS1 hb2 hb3 ht2 hcs2 hst2 hff2
  go_wp2
  go_ret
  have hst3 : Step (· = (10, 0)) W2 ρ2 ((W2.setCell ⟨u, 2, none⟩ (.slice (some ⟨g1, 0, none⟩) (S.opn.length + 1) d1)).setCell ⟨u, 1, none⟩ (.int .i64 ((S.many : Int) + 1))) ρ2 := (Step.setCell (T := fun x => x = ((10, 0) : Tag)) (Step.refl _ W2 ρ2) (a := ⟨u, 2, none⟩) HT2.out rfl _).setCell (a := ⟨u, 1, none⟩) HT2.out rfl _
  refine ⟨_, ρ2, by simp, ⟨a, ko, kc, .slice (some ⟨g1, 0, none⟩) (S.opn.length + 1) d1, vc, ?_⟩, UMove.opn, S2.out.trans (hst3.mono (by rintro t rfl; exact utag_ge (by simp) (by simp)))⟩
  exact {
    blk := HB3.out
    tag := HT2.out
    st := HST2.out.step' hst3 (by rintro t h1 rfl; exact not_stag (by simp) h1)
    o := by
      have h := HO2.out.step hst3 (by simp)
      have e2 : (S.opn ++ [(S.many : Int)]).length = S.opn.length + 1 := by simp
      have e3 : ints (S.opn ++ [(S.many : Int)]) = ints S.opn ++ [.int .i64 S.many] := by simp [ints]
      dsimp only
      rw [e2, e3]
      exact h
    c := HC2.out.step hst3 (by simp)
    f := fun c hc => ⟨hst3.blk' (HF2.out c hc).1 (HF2.out c hc).2 (by simp), hst3.tag (HF2.out c hc).1.lt (HF2.out c hc).2⟩
    nd := HH2.out.nd }
set_option maxRecDepth 100000 in
set_option maxHeartbeats 2000000 in
theorem With_open0 {N : Nat} (w : World) (ρ : Ghost) (u a : Nat) (S : USt) (ko kc : Nat) (vo vc : Value) (H : URepAt w ρ u a S ko kc vo vc) (hI : UInv N S) (hN : N + 1 ≤ 200) (hfr : Fresh w ρ) (d : Nat) (hd : d < 256) (r n ad f v : Int) (hm : d % 8 = 0) :
    Calls Try.prog 27 #[.pointer (some ⟨u, 0, none⟩), .agg #[.int .u8 d, .int .i64 r, .int .i64 n, .int .i64 ad, .int .i64 f, .int .i64 v]] w (WPost ρ u S w) := by
  obtain ⟨Ao, co, rfl, ho1, ho2⟩ := H.o.form
  have hnl := hI.nopn
  have hs0 := (Step.refl (fun _ => False) w ρ).alloc (.cells #[.int .u8 d, .int .i64 r, .int .i64 n, .int .i64 ad, .int .i64 f, .int .i64 v] 34)
  have H0 := H.step0 hs0
  have S0 := Hd.mk ((Step.refl UTag w ρ).alloc (.cells #[.int .u8 d, .int .i64 r, .int .i64 n, .int .i64 ad, .int .i64 f, .int .i64 v] 34))
  have X := Hd.mk (Blk.new' w #[.int .u8 d, .int .i64 r, .int .i64 n, .int .i64 ad, .int .i64 f, .int .i64 v] 34)
  have X0 : Hd (ρ w.heap.size = none) := ⟨hfr _ (Nat.le_refl _)⟩
  have FR := Hd.mk ((Step.refl UTag w ρ).alloc (.cells #[.int .u8 d, .int .i64 r, .int .i64 n, .int .i64 ad, .int .i64 f, .int .i64 v] 34) |>.fresh hfr)
  have hlen : S.opn.length ≤ 200 := by omega
  have HI := Hd.mk hI
  have hmany := hI.many
  have hreg := hI.good.nreg
  have x0 := H0.blk.cell (i := 0) rfl
  have x2 := H0.blk.cell (i := 2) rfl
  have em : (d : Int).tmod 8 = 0 := by rw [Int.tmod_eq_emod_of_nonneg (by omega)]; omega
  have H1 := Hd.mk H0
  clear H0 H hI hs0 hfr
  go_enter Try.func27, Try.ntmps27
  go_wp2_with fail
  generalize w.alloc (.cells #[.int .u8 d, .int .i64 r, .int .i64 n, .int .i64 ad, .int .i64 f, .int .i64 v] 34) = W at *
  generalize w.heap.size = Xb at *
  have hop := Open_any W ρ a S.s H1.out.st (by omega)
  rw [← hmany] at hop
  refine hop.mono ?_
  have HM := Hd.mk hmany
  have hmb : S.many ≤ 200 := by omega
  clear hop x0 x2 em hmany
  try clear hz
  rintro e W1 ⟨ρ1, rfl, R1, hs1⟩
  have H2 := H1.out.store hs1 R1
  have S1 := Hd.mk (S0.out.trans (hs1.mono stag_utag))
  have x2 : W1.cell? ⟨u, 2, none⟩ = some (.slice Ao S.opn.length co) := H2.blk.cell (i := 2) rfl
  have x2f := H2.blk.free 2
  have ho : OwnSl W1 ρ1 (11, ko) 3 1 (.slice Ao S.opn.length co) S.opn.length (ints S.opn) := H2.o
  have HH2 := Hd.mk H2
  clear H2 R1 hs1
  go_wp2_with (at_builtin; refine wpList_append_boxW rfl _ _ _ rfl 3 _ 1 8 Try.underlying28 info3 rfl (by decide) ρ1 (11, ko) (.slice Ao S.opn.length co) S.opn.length _ [.int .i64 S.many] rfl ho 1 _ rfl (by first | rfl | simp) rfl (by simp [Value.oneCell']) (by unfold maxLen; omega) (by omega) ?z1)
  case z1 =>
  intro u1 W2 ρ2 hO1 hS1
  obtain ⟨g1, d1, rfl, _⟩ := hO1.some (by omega)
  have hb2 := hS1.blk' HH2.out.blk HH2.out.tag (by simp)
  have ht2 := hS1.tag HH2.out.blk.lt HH2.out.tag
  have hcs2 := HH2.out.c.step hS1 (by simp)
  have hst2 := HH2.out.st.step' hS1 (by rintro t h1 rfl; exact not_stag (by simp) h1)
  have hff2 : ∀ c ∈ S.cs, Blk W2 c.g 2 (ints c.fs) ∧ ρ2 c.g = some (13, 0) := fun c hc => ⟨hS1.blk' (HH2.out.f c hc).1 (HH2.out.f c hc).2 (by simp), hS1.tag (HH2.out.f c hc).1.lt (HH2.out.f c hc).2⟩
  have S2 := Hd.mk (S1.out.trans (hS1.mono (by rintro t rfl; exact utag_ge (by simp) (by simp))))
  have y2 := hb2.cell (i := 2) rfl
  have y2f := hb2.free 2
  have y1 := hb2.cell (i := 1) rfl
  have y1f := hb2.free 1
  have hb3 := (hb2.setCell 2 (.slice (some ⟨g1, 0, none⟩) (S.opn.length + 1) d1)).setCell 1 (.int .i64 ((S.many + 1 : Nat) : Int))
  have HB3 := Hd.mk hb3
  have HT2 := Hd.mk ht2
  have HC2 := Hd.mk hcs2
  have HST2 := Hd.mk hst2
  have HF2 := Hd.mk hff2
  have HO2 := Hd.mk hO1
  have e1 : IntKind.i64.wrap ((S.many : Int) + 1) = ((S.many + 1 : Nat) : Int) := by rw [IntWalk.i64_in _ (by omega)]; omega
  clear x2 x2f ho hO1 hS1 hb2 hb3 ht2 hcs2 hst2 hff2
  go_wp2
  go_ret
  have hst3 : Step (· = (10, 0)) W2 ρ2 ((W2.setCell ⟨u, 2, none⟩ (.slice (some ⟨g1, 0, none⟩) (S.opn.length + 1) d1)).setCell ⟨u, 1, none⟩ (.int .i64 ((S.many : Int) + 1))) ρ2 := (Step.setCell (T := fun x => x = ((10, 0) : Tag)) (Step.refl _ W2 ρ2) (a := ⟨u, 2, none⟩) HT2.out rfl _).setCell (a := ⟨u, 1, none⟩) HT2.out rfl _
  refine ⟨_, ρ2, by simp, ⟨a, ko, kc, .slice (some ⟨g1, 0, none⟩) (S.opn.length + 1) d1, vc, ?_⟩, UMove.opn, S2.out.trans (hst3.mono (by rintro t rfl; exact utag_ge (by simp) (by simp)))⟩
  exact {
    blk := HB3.out
    tag := HT2.out
    st := HST2.out.step' hst3 (by rintro t h1 rfl; exact not_stag (by simp) h1)
    o := by
      have h := HO2.out.step hst3 (by simp)
      have e2 : (S.opn ++ [(S.many : Int)]).length = S.opn.length + 1 := by simp
      have e3 : ints (S.opn ++ [(S.many : Int)]) = ints S.opn ++ [.int .i64 S.many] := by simp [ints]
      dsimp only
      rw [e2, e3]
      exact h
    c := HC2.out.step hst3 (by simp)
    f := fun c hc => ⟨hst3.blk' (HF2.out c hc).1 (HF2.out c hc).2 (by simp), hst3.tag (HF2.out c hc).1.lt (HF2.out c hc).2⟩
    nd := HH2.out.nd }

end Go.Proofs.Ytgejmgomliadmaa
