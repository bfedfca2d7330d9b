/- The laws' user: same. -/
import Derived.Test.YtgejmgomliadmaaUsG
set_option linter.unusedVariables false
namespace Go.Proofs.Ytgejmgomliadmaa
open Go Go.RowKit

theorem Blk.below {w w1 : World} {b : Nat} {T : TypeId} {L : List Value} (h : Blk w b T L) (hb : Below w.heap.size w w1) : Blk w1 b T L := h.of_heap (hb.block b h.lt)
set_option maxRecDepth 100000 in
theorem same_any {N : Nat} {s : PSt} {C : List Cel} (hg : SGood N s C) (hN : N ≤ 200) (w : World) (ρ : Ghost) (a : Nat) (H : Rep w ρ a s) (c : UC) (hc : c.cel ∈ C) (hb : Blk w c.g 2 (ints c.fs)) (hd : ∀ k, k < c.fs.length → s.data.getD (c.at_ + k) 0 = c.fs.getD k 0) :
    Calls Try.prog 29 #[.pointer (some ⟨a, 0, none⟩), .agg #[.int .i64 c.reg, .int .i64 c.at_, .slice (some ⟨c.g, 0, none⟩) c.fs.length c.fs.length]] w fun e w' => e = .returned (.bool true) ∧ Below w.heap.size w w' := by
  have hcd : c.cel.wd = c.fs.length := rfl
  obtain ⟨_, _, _, hw1, hw2, _⟩ := hg.cel c.cel hc
  rw [hcd] at hw1 hw2
  have HG : ∀ (w' : World), Rep w' ρ a s → ∀ f : Int, Calls Try.prog 17 #[.pointer (some ⟨a, 0, none⟩), .int .i64 c.reg, .int .i64 c.at_, .int .i64 f] w' (RetPost (.tuple #[.int .i64 (if 0 ≤ f ∧ f < c.fs.length then c.fs.getD f.toNat 0 else 0), .int .i64 (if 0 ≤ f ∧ f < c.fs.length then 0 else 72)]) w') := by
    intro w' H' f
    have h := get_good hg hN w' ρ a H' c.reg c.at_ f
    have he : errOf s C c.reg c.at_ f = if 0 ≤ f ∧ f < c.fs.length then 0 else 72 := errOf_cel hg hc f
    rw [he] at h
    by_cases hf : 0 ≤ f ∧ f < c.fs.length
    · rw [if_pos hf, if_pos rfl] at h
      rw [if_pos hf, if_pos hf]
      have := hd f.toNat (by omega)
      rw [← this]
      have e2 : c.at_ + f.toNat = ((c.at_ : Int) + f).toNat := by omega
      rw [e2]; exact h
    · rw [if_neg hf, if_neg (by decide)] at h
      rw [if_neg hf, if_neg hf]; exact h
  have HGG := Hd.mk HG
  have h0 := (Below.refl w.heap.size w).alloc (Nat.le_refl _) (.cells #[.int .i64 c.reg, .int .i64 c.at_, .slice (some ⟨c.g, 0, none⟩) c.fs.length c.fs.length] 50)
  have H0 := Hd.mk (H.below h0)
  have HB0 := Hd.mk (hb.below h0)
  have X0 := Hd.mk (Blk.new' w #[.int .i64 c.reg, .int .i64 c.at_, .slice (some ⟨c.g, 0, none⟩) c.fs.length c.fs.length] 50)
  have HBL := Hd.mk h0
  clear h0 H hb HG hd hg hc
  go_enter Try.func29, Try.ntmps29
  go_wp2_with fail
  generalize w.alloc (.cells #[.int .i64 c.reg, .int .i64 c.at_, .slice (some ⟨c.g, 0, none⟩) c.fs.length c.fs.length] 50) = W0 at *
  go_loopw [5] (fun v wr => ∃ j : Nat, v = .int .i64 j ∧ j ≤ c.fs.length ∧ Below W0.heap.size W0 wr) (fun v _ => c.fs.length - (intOf v).toNat)
  case atStart => exact ⟨0, by simp, by omega, Below.refl _ _⟩
  case round =>
    obtain ⟨j, rfl, hj, hB⟩ := hrel
    have X := X0.out.below hB
    have x0 := X.cell (i := 0) rfl
    have x1 := X.cell (i := 1) rfl
    have x2 := X.cell (i := 2) rfl
    have HB := Hd.mk hB
    by_cases hlt : j < c.fs.length
    · have hG := HGG.out wr (H0.out.below hB) j
      rw [if_pos ⟨by omega, by omega⟩, if_pos ⟨by omega, by omega⟩, Int.toNat_natCast] at hG
      have HG1 := Hd.mk hG
      have HY : Hd (∀ (W' : World) (T : TypeId), Blk W' c.g T (ints c.fs) → W'.cell? ⟨c.g, j, none⟩ = some (.int .i64 (c.fs.getD j 0))) := ⟨fun W' T hb => hb.cell (ints_get hlt)⟩
      generalize c.fs.getD j 0 = y at *
      clear hG X hB
      go_wp2_with fail
      refine HG1.out.mono ?_
      rintro e w2 ⟨rfl, hb2⟩
      have hB2 := Hd.mk (below2 HB.out hb2)
      have f2 := (X0.out.below hB2.out).cell (i := 2) rfl
      have f3 := HY.out _ _ (HB0.out.below hB2.out)
      clear hb2 x0 x1 x2
      go_wp2
      go_roundw
      case rel => exact ⟨j + 1, by go_num, by omega, hB2.out⟩
      case measure => simp [intOf]; omega
    · have hjl : j = c.fs.length := by omega
      have hG := HGG.out wr (H0.out.below hB) c.fs.length
      rw [if_neg (by omega), if_neg (by omega)] at hG
      have HG1 := Hd.mk hG
      have hnl : ¬ ((j : Int) < c.fs.length) := by omega
      clear hG X hB hjl
      go_wp2_with fail
      refine HG1.out.mono ?_
      rintro e w2 ⟨rfl, hb2⟩
      have hB2 := below2 HB.out hb2
      have f0 := (X0.out.below hB2).cell (i := 0) rfl
      have f1 := (X0.out.below hB2).cell (i := 1) rfl
      have hG2 := HGG.out w2 (H0.out.below hB2) (-1)
      rw [if_neg (by omega), if_neg (by omega)] at hG2
      have HG2 := Hd.mk hG2
      have HB2 := Hd.mk hB2
      clear hb2 hB2 hG2 x0 x1 x2
      go_wp2_with fail
      refine HG2.out.mono ?_
      rintro e w3 ⟨rfl, hb3⟩
      have HB3 := Hd.mk (below2 HB2.out hb3)
      clear hb3
      go_wp2
      go_ret
      exact ⟨by simp, HBL.out.trans (HB3.out.mono HBL.out.size)⟩

end Go.Proofs.Ytgejmgomliadmaa
