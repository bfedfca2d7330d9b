/- The laws' user: what she does, whatever it is. -/
import Derived.Test.YtgejmgomliadmaaUsN
import Derived.Test.YtgejmgomliadmaaUsR
set_option linter.unusedVariables false
namespace Go.Proofs.Ytgejmgomliadmaa
open Go Go.RowKit

theorem with_any {N : Nat} (w : World) (ρ : Ghost) (u : Nat) (S : USt) (HU : URep w ρ u S) (hI : UInv N S) (hN : N + 1 ≤ 200) (hfr : Fresh w ρ) (d : Nat) (hd : d < 256) (r n ad f v : Int) :
    Calls Try.prog 27 #[.pointer (some ⟨u, 0, none⟩), .agg #[.int .u8 d, .int .i64 r, .int .i64 n, .int .i64 ad, .int .i64 f, .int .i64 v]] w (WPost ρ u S w) := by
  obtain ⟨a, ko, kc, vo, vc, H⟩ := HU
  by_cases h0 : d % 8 = 0
  · exact With_open0 w ρ u a S ko kc vo vc H hI hN hfr d hd r n ad f v h0
  by_cases hz : S.opn.length = 0
  · exact With_open1 w ρ u a S ko kc vo vc H hI hN hfr d hd r n ad f v h0 hz
  have hz : 1 ≤ S.opn.length := by omega
  by_cases h1 : d % 8 = 1
  · exact With_close w ρ u a S ko kc vo vc H hI hN hfr d hd r n ad f v hz h1
  by_cases h3 : d % 8 < 4
  · obtain ⟨kw, hkw, hka⟩ := around_nat n 40 (by omega) (by omega)
    by_cases hw : kw + 1 ≤ 16
    · exact With_alloc1 w ρ u a S ko kc vo vc H hI hN hfr d hd r n ad f v hz ⟨by omega, h3⟩ kw hkw (fun w => (hka w).2) hw
    · exact With_alloc2 w ρ u a S ko kc vo vc H hI hN hfr d hd r n ad f v hz ⟨by omega, h3⟩ kw hkw (fun w => (hka w).2) (by omega)
  by_cases hcs : S.cs = []
  · exact With_none w ρ u a S ko kc vo vc H hI hN hfr d hd r n ad f v hz (by omega) hcs
  have hcs : 1 ≤ S.cs.length := by
    cases h : S.cs with
    | nil => exact absurd h hcs
    | cons => simp
  by_cases h4 : d % 8 = 4
  · exact With_get w ρ u a S ko kc vo vc H hI hN hfr d hd r n ad f v hz h4 hcs
  · exact With_set w ρ u a S ko kc vo vc H hI hN hfr d hd r n ad f v hz (by omega) hcs

/-- A user that has just been made. -/
theorem urep_new {w : World} {ρ : Ghost} {a : Nat} (h : Rep w ρ a hs0) :
    URep (w.alloc (.cells #[.pointer (some ⟨a, 0, none⟩), .int .i64 0, .slice none 0 0, .slice none 0 0, .bool false] 45)) (ρ.put w.heap.size (10, 0)) w.heap.size ⟨hs0, 0, [], [], false⟩ ∧
    Step UTag w ρ (w.alloc (.cells #[.pointer (some ⟨a, 0, none⟩), .int .i64 0, .slice none 0 0, .slice none 0 0, .bool false] 45)) (ρ.put w.heap.size (10, 0)) := by
  have hs := (Step.refl (fun _ => False) w ρ).alloc_tag (.cells #[.pointer (some ⟨a, 0, none⟩), .int .i64 0, .slice none 0 0, .slice none 0 0, .bool false] 45) (10, 0)
  refine ⟨⟨a, 0, 0, .slice none 0 0, .slice none 0 0, ?_⟩, hs.mono (fun _ h => h.elim)⟩
  exact {
    blk := Blk.new' _ _ _
    tag := Ghost.put_same _ _ _
    st := h.step' hs (fun _ _ h => h)
    o := OwnSl.nil ..
    c := OwnSl.nil ..
    f := by simp
    nd := by simp }
/-- The user behind a stretch in which only what nobody owns was changed. -/
theorem URep.step0 {w w1 : World} {ρ ρ1 : Ghost} {u : Nat} {S : USt} (h : URep w ρ u S) (hs : Step (fun _ => False) w ρ w1 ρ1) : URep w1 ρ1 u S := by
  obtain ⟨a, ko, kc, vo, vc, H⟩ := h
  exact ⟨a, ko, kc, vo, vc, H.step0 hs⟩
theorem UInv.bounds {N : Nat} {S : USt} (h : UInv N S) (hN : N ≤ 200) : S.cs.length ≤ 200 ∧ S.opn.length ≤ 200 ∧ S.many ≤ 200 ∧ ∀ c ∈ S.cs, c.reg ≤ 200 ∧ c.at_ ≤ 10000000 ∧ 1 ≤ c.fs.length ∧ c.fs.length ≤ 4097 := by
  have h1 := h.good.ncel
  have h2 := h.nopn
  have h3 := h.good.nreg
  have h4 := h.many
  unfold USt.C at h1
  simp only [List.length_map] at h1
  refine ⟨by omega, by omega, by omega, fun c hc => ?_⟩
  have hcC : c.cel ∈ S.C := List.mem_map.2 ⟨c, hc, rfl⟩
  obtain ⟨r, hr, _, hw1, hw2, _⟩ := h.good.cel c.cel hcC
  have hl := (List.getElem?_eq_some_iff.1 hr).1
  have hf := h.good.cel_fit hcC
  have hn := h.good.nnp
  have hw1 : 1 ≤ c.fs.length := hw1
  have hw2 : c.fs.length ≤ 4097 := hw2
  have hl : c.reg < S.s.regs.length := hl
  have hf : c.at_ + c.fs.length ≤ S.s.np * 16 := hf
  omega
/-- The user's cells are there to be read. -/
theorem URepAt.celsAt {N : Nat} {w : World} {ρ : Ghost} {u a : Nat} {S : USt} {ko kc : Nat} {vo : Value} {A : Option Addr} {n c : Nat} (h : URepAt w ρ u a S ko kc vo (.slice A n c)) (hI : UInv N S) (hN : N ≤ 200) : CelsAt w A S.cs := by
  obtain ⟨b1, _, _, b2⟩ := hI.bounds hN
  refine ⟨by omega, fun c hc => by have := b2 c hc; omega, ?_⟩
  intro k d hk
  have hlt := (List.getElem?_eq_some_iff.1 hk).1
  obtain ⟨g, c', hv, _, _, _, hc', _, _⟩ := h.c.some (by omega)
  cases hv
  obtain ⟨cv0, cv1, cv2⟩ := cellsV_get hk
  exact ⟨g, rfl, (hc' _ (by omega)).trans cv0, (hc' _ (by omega)).trans cv1, (hc' _ (by omega)).trans cv2⟩

/-- How many words the first cells have. -/
def wdTo (cs : List UC) (j : Nat) : Int := (sumF (fun c => c.fs.length) (cs.take j) : Nat)
theorem wdTo_succ {cs : List UC} {j : Nat} {c : UC} (h : cs[j]? = some c) : wdTo cs (j + 1) = wdTo cs j + c.fs.length := by
  unfold wdTo
  rw [List.take_add_one, h, Option.toList_some, sumF_add]
  omega
theorem wdTo_le {cs : List UC} (h : ∀ c ∈ cs, c.fs.length ≤ 4097) (j : Nat) (hj : j ≤ cs.length) : 0 ≤ wdTo cs j ∧ wdTo cs j ≤ 4097 * j := by
  induction j with
  | zero => simp [wdTo, sumF]
  | succ j ih =>
    have hlt : j < cs.length := by omega
    have h1 := ih (by omega)
    have h2 := h _ (List.getElem_mem hlt)
    rw [wdTo_succ (List.getElem?_eq_getElem hlt)]
    omega
theorem UInv.held {N : Nat} {S : USt} (h : UInv N S) : S.s.held = wdTo S.cs S.cs.length := by
  unfold wdTo
  rw [h.good.held, USt.C, sumWd_C, List.take_length]

end Go.Proofs.Ytgejmgomliadmaa
