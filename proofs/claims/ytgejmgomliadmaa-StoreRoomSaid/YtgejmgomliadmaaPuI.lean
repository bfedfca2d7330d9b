/- The store and the reference: every call's contract, side by side. -/
import Derived.Test.YtgejmgomliadmaaLwA
set_option linter.unusedVariables false
namespace Go.Proofs.Ytgejmgomliadmaa
open Go Go.RowKit

/-- The two stores have had the same calls. -/
structure Both (N : Nat) (s : PSt) (t : RSt) : Prop where
  ex : ∃ C A, SGood N s C ∧ RSim t s C A ∧ A.length ≤ N
theorem both_new : Both 0 hs0 RSt.empty := ⟨[], [], good_new, sim_new, by simp⟩
theorem Both.mono {N M : Nat} {s : PSt} {t : RSt} (h : Both N s t) (hM : N ≤ M) : Both M s t := by
  obtain ⟨C, A, h1, h2, h3⟩ := h.ex
  exact ⟨C, A, h1.mono hM, h2, by omega⟩
theorem RRep.drewN {w : World} {ρ : Ghost} {a : Nat} {t : RSt} (h : RRep w ρ a t) (n : Nat) : RRep (w.drewN n) ρ a t := h.step (T := fun _ => False) ((Step.refl _ w ρ).drewN n) (by simp)
theorem Rep.drewN {w : World} {ρ : Ghost} {a : Nat} {s : PSt} (h : Rep w ρ a s) (n : Nat) : Rep (w.drewN n) ρ a s := by
  obtain ⟨vr, vp, vw, css, h⟩ := h
  exact ⟨vr, vp, vw, css, h.step (T := fun _ => False) ((Step.refl _ w ρ).drewN n) (by simp)⟩
theorem Rep.step' {T : Tag → Prop} {w w1 : World} {ρ ρ1 : Ghost} {a : Nat} {s : PSt} (h : Rep w ρ a s) (hs : Step T w ρ w1 ρ1) (hT : ∀ t, STag t → ¬ T t) : Rep w1 ρ1 a s := by
  obtain ⟨vr, vp, vw, css, h⟩ := h
  exact ⟨vr, vp, vw, css, h.step hs hT⟩
theorem stag_not_r : ∀ t, STag t → ¬ RTag t := by
  intro t h1 h2; unfold STag at h1; unfold RTag at h2; omega
theorem rtag_not_s : ∀ t, RTag t → ¬ STag t := fun t h1 h2 => stag_not_r t h2 h1
/-- A block that no ghost knows. -/
theorem Step.blk0 {T0 : Tag → Prop} {w w' : World} {ρ ρ' : Ghost} {b : Nat} {T : TypeId} {L : List Value} (hs : Step T0 w ρ w' ρ') (hb : Blk w b T L) (h0 : ρ b = none) : Blk w' b T L ∧ ρ' b = none :=
  ⟨hb.of_heap (hs.block b hb.lt (fun t ht => by rw [h0] at ht; cases ht)), by rw [hs.ghost b hb.lt]; exact h0⟩

theorem open_both {N : Nat} {s : PSt} {t : RSt} (h : Both N s t) (hN : N ≤ 200) : ∃ s' t', Both (N + 1) s' t' ∧
    (∀ (w : World) (ρ : Ghost) (a : Nat), Rep w ρ a s → Calls Try.prog 11 #[.pointer (some ⟨a, 0, none⟩)] w (OpPost ρ a s' (.int .i64 s.regs.length) w)) ∧
    (∀ (w : World) (ρ : Ghost) (b : Nat), RRep w ρ b t → Calls Try.prog 12 #[.pointer (some ⟨b, 0, none⟩)] w (RPost ρ b t' (.int .i64 s.regs.length) w)) := by
  obtain ⟨C, A, h1, h2, h3⟩ := h.ex
  refine ⟨_, _, ⟨C, A, good_open h1, sim_open h2 h1, by omega⟩, fun w ρ a H => ?_, fun w ρ b H => ?_⟩
  · exact Open_any w ρ a s H (by have := h1.nreg; omega)
  · have hol := h2.opl
    have := Begin_any w ρ b t H (by have := h1.nreg; omega) h2.curl h2.fill
    rw [hol] at this
    exact this

theorem close_both {N : Nat} {s : PSt} {t : RSt} (h : Both N s t) (hN : N ≤ 200) (n : Int) : ∃ s' t' e, Both N s' t' ∧
    (∀ (w : World) (ρ : Ghost) (a : Nat), Rep w ρ a s → Calls Try.prog 13 #[.pointer (some ⟨a, 0, none⟩), .int .i64 n] w (OpPost ρ a s' (.int .i64 e) w)) ∧
    (∀ (w : World) (ρ : Ghost) (b : Nat), RRep w ρ b t → Calls Try.prog 14 #[.pointer (some ⟨b, 0, none⟩), .int .i64 n] w (RPost ρ b t' (.int .i64 e) w)) := by
  obtain ⟨C, A, h1, h2, h3⟩ := h.ex
  obtain ⟨g1, g2⟩ := close_good h1 hN n
  have hop := h2.isOpen n
  by_cases ho : isOpenB s n = true
  · obtain ⟨i, r, rfl, hi, hr⟩ := isOpenB_some ho
    have e1 : ((i : Nat) : Int).toNat = i := by omega
    have e2 : s.regs.getD i PReg.none = r := by rw [List.getD_eq_getElem?_getD, hi]; rfl
    have hS := sim_close h2 h1 hi
    have e3 : closeP s i = closeS s i r := by unfold closeP; rw [if_pos ho, e1, e2]
    have e4 : closeC s C i = C.filter (fun c => c.reg != i) := by unfold closeC; rw [if_pos ho, e1]
    have e5 : closeE s i = 0 := by unfold closeE; rw [if_pos ho]
    rw [e3, e4] at g1
    rw [e3, e5] at g2
    exact ⟨_, _, _, ⟨_, A, g1, hS, h3⟩, g2, fun w ρ b H => RClose_ok w ρ b t H i (by rw [hop, ho]) (by rw [h2.ownl]; have := h1.nnp; omega)⟩
  · have ho' : isOpenB s n = false := by simpa using ho
    have e3 : closeP s n = s := by unfold closeP; rw [if_neg ho]
    have e5 : closeE s n = 70 := by unfold closeE; rw [if_neg ho]
    rw [e3, e5] at g2
    refine ⟨s, t, 70, h, g2, fun w ρ b H => ?_⟩
    refine (RClose_no w ρ b t H n (by rw [hop, ho'])).mono ?_
    rintro e w' ⟨rfl, rfl⟩
    exact ⟨ρ, rfl, H, Step.refl _ _ _⟩

theorem alloc_both {N : Nat} {s : PSt} {t : RSt} (h : Both N s t) (hN : N + 1 ≤ 200) (n k : Int) : ∃ s' t' x e, Both (N + 1) s' t' ∧
    (∀ (w : World) (ρ : Ghost) (a : Nat), Rep w ρ a s → Fresh w ρ → Calls Try.prog 15 #[.pointer (some ⟨a, 0, none⟩), .int .i64 n, .int .i64 k] w (OpPost ρ a s' (.tuple #[.int .i64 x, .int .i64 e]) w)) ∧
    (∀ (w : World) (ρ : Ghost) (b : Nat), RRep w ρ b t → Calls Try.prog 16 #[.pointer (some ⟨b, 0, none⟩), .int .i64 n, .int .i64 k] w (RPost ρ b t' (.tuple #[.int .i64 x, .int .i64 e]) w)) := by
  obtain ⟨C, A, h1, h2, h3⟩ := h.ex
  have hop := h2.isOpen n
  by_cases ho : isOpenB s n = true
  · by_cases hk : k < 1 ∨ 4097 < k
    · refine ⟨s, t, 0, 73, h.mono (by omega), fun w ρ a H _ => ?_, fun w ρ b H => ?_⟩
      · refine (alloc_size w ρ a s H n k ho hk).mono ?_
        rintro e w' ⟨rfl, rfl⟩
        exact ⟨ρ, rfl, H, Step.refl _ _ _⟩
      · refine (RAlloc_size w ρ b t H n k (by rw [hop, ho]) hk).mono ?_
        rintro e w' ⟨rfl, rfl⟩
        exact ⟨ρ, rfl, H, Step.refl _ _ _⟩
    · obtain ⟨i, r, rfl, hi, hr⟩ := isOpenB_some ho
      obtain ⟨wd, rfl⟩ := Int.eq_ofNat_of_zero_le (show 0 ≤ k by omega)
      obtain ⟨g1, g2⟩ := alloc_good h1 hN hi hr (wd := wd) (by omega) (by omega)
      obtain ⟨t', g3, g4⟩ := RAlloc_sim h2 h1 hN h3 hi hr (wd := wd) (by omega) (by omega)
      refine ⟨_, t', ((allocP s i wd r).1 : Nat), 0, ⟨_, _, g1, g3, by simp; omega⟩, fun w ρ a H hf => g2 w ρ a H hf, fun w ρ b H => g4 w ρ b H⟩
  · have ho' : isOpenB s n = false := by simpa using ho
    refine ⟨s, t, 0, 70, h.mono (by omega), fun w ρ a H _ => ?_, fun w ρ b H => ?_⟩
    · refine (alloc_closed w ρ a s H n k ho').mono ?_
      rintro e w' ⟨rfl, rfl⟩
      exact ⟨ρ, rfl, H, Step.refl _ _ _⟩
    · refine (RAlloc_closed w ρ b t H n k (by rw [hop, ho'])).mono ?_
      rintro e w' ⟨rfl, rfl⟩
      exact ⟨ρ, rfl, H, Step.refl _ _ _⟩

theorem get_both {N : Nat} {s : PSt} {t : RSt} (h : Both N s t) (hN : N ≤ 200) (n x f : Int) : ∃ y e : Int,
    (∀ (w : World) (ρ : Ghost) (a : Nat), Rep w ρ a s → Calls Try.prog 17 #[.pointer (some ⟨a, 0, none⟩), .int .i64 n, .int .i64 x, .int .i64 f] w (RetPost (.tuple #[.int .i64 y, .int .i64 e]) w)) ∧
    (∀ (w : World) (ρ : Ghost) (b : Nat), RRep w ρ b t → Calls Try.prog 18 #[.pointer (some ⟨b, 0, none⟩), .int .i64 n, .int .i64 x, .int .i64 f] w fun e' w' => e' = .returned (.tuple #[.int .i64 y, .int .i64 e]) ∧ w = w') := by
  obtain ⟨C, A, h1, h2, h3⟩ := h.ex
  refine ⟨_, _, fun w ρ a H => get_good h1 hN w ρ a H n x f, fun w ρ b H => ?_⟩
  have hfind := sim_find h2 h1 n x f
  have hF := h2.fine h1 hN h3
  by_cases he : errOf s C n x f = 0
  · rw [if_pos he, he]
    obtain ⟨_, c, hc, _, k2, k3, k4⟩ := errOf_zero he
    have k5 := h1.cel_fit hc
    have hd := h1.data
    have := RGet_ok w ρ b t H hF n x f (by rw [hfind, he]) (x + f).toNat (by omega) (by rw [h2.dat]; omega)
    rw [h2.dat] at this
    exact this
  · rw [if_neg he]
    have := RGet_err w ρ b t H hF n x f (by rw [hfind]; exact he)
    rw [hfind] at this
    exact this

theorem set_both {N : Nat} {s : PSt} {t : RSt} (h : Both N s t) (hN : N ≤ 200) (n x f v : Int) : ∃ s' t' e, Both N s' t' ∧
    (∀ (w : World) (ρ : Ghost) (a : Nat), Rep w ρ a s → Calls Try.prog 19 #[.pointer (some ⟨a, 0, none⟩), .int .i64 n, .int .i64 x, .int .i64 f, .int .i64 v] w (OpPost ρ a s' (.int .i64 e) w)) ∧
    (∀ (w : World) (ρ : Ghost) (b : Nat), RRep w ρ b t → Calls Try.prog 20 #[.pointer (some ⟨b, 0, none⟩), .int .i64 n, .int .i64 x, .int .i64 f, .int .i64 v] w (RPost ρ b t' (.int .i64 e) w)) := by
  obtain ⟨C, A, h1, h2, h3⟩ := h.ex
  have hfind := sim_find h2 h1 n x f
  have hF := h2.fine h1 hN h3
  have hg := good_set h1 n x f v
  have hs := fun (w : World) (ρ : Ghost) (a : Nat) (H : Rep w ρ a s) => set_good h1 hN w ρ a H n x f v
  by_cases he : errOf s C n x f = 0
  · have e1 : setS s C n x f v = { s with data := s.data.set (x + f).toNat v } := by unfold setS; rw [if_pos he]
    rw [e1] at hg hs
    rw [he] at hs
    obtain ⟨_, c, hc, _, k2, k3, k4⟩ := errOf_zero he
    have k5 := h1.cel_fit hc
    have hd := h1.data
    exact ⟨_, _, 0, ⟨C, A, hg, sim_set h2 (x + f).toNat v, h3⟩, hs, fun w ρ b H => RSet_ok w ρ b t H hF n x f v (by rw [hfind, he]) (x + f).toNat (by omega) (by rw [h2.dat]; omega)⟩
  · have e1 : setS s C n x f v = s := by unfold setS; rw [if_neg he]
    rw [e1] at hs
    refine ⟨s, t, _, h, hs, fun w ρ b H => ?_⟩
    have := RSet_err w ρ b t H hF n x f v (by rw [hfind]; exact he)
    rw [hfind] at this
    refine this.mono ?_
    rintro e w' ⟨rfl, rfl⟩
    exact ⟨ρ, rfl, H, Step.refl _ _ _⟩

theorem counts_both {N : Nat} {s : PSt} {t : RSt} (h : Both N s t) (hN : N ≤ 200) :
    (∀ (w : World) (ρ : Ghost) (b : Nat), RRep w ρ b t → Calls Try.prog 22 #[.pointer (some ⟨b, 0, none⟩)] w fun e w' => ∃ n, e = .returned (.int .i64 s.held) ∧ w' = w.drewN n) ∧
    (∀ (w : World) (ρ : Ghost) (b : Nat), RRep w ρ b t → Calls Try.prog 24 #[.pointer (some ⟨b, 0, none⟩)] w fun e w' => e = .returned (.int .i64 s.used) ∧ w = w') ∧
    (∀ (w : World) (ρ : Ghost) (b : Nat), RRep w ρ b t → Calls Try.prog 26 #[.pointer (some ⟨b, 0, none⟩)] w fun e w' => ∃ n, e = .returned (.int .i64 s.wait.length) ∧ w' = w.drewN n) := by
  obtain ⟨C, A, h1, h2, h3⟩ := h.ex
  have hF := h2.fine h1 hN h3
  have hw := sim_words h2 h1
  obtain ⟨hp, hf⟩ := sim_pages h2 h1
  refine ⟨fun w ρ b H => ?_, fun w ρ b H => ?_, fun w ρ b H => ?_⟩
  · have := RWords_any w ρ b t H hF
    rw [hw] at this; exact this
  · have := RPages_any w ρ b t H hF
    rw [hp] at this; exact this
  · have := RFree_any w ρ b t H hF
    rw [hf] at this; exact this

end Go.Proofs.Ytgejmgomliadmaa
