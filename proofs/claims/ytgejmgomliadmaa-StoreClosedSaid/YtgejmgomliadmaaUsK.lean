/- The laws' user: what she does with what is there. -/
import Derived.Test.YtgejmgomliadmaaUsJ
set_option linter.unusedVariables false
namespace Go.Proofs.Ytgejmgomliadmaa
open Go Go.RowKit

theorem URepAt.alc1 {w : World} {ρ : Ghost} {u a : Nat} {S : USt} {ko kc : Nat} {vo vc : Value} (h : URepAt w ρ u a S ko kc vo vc) (hfr : Fresh w ρ) (wd : Nat) (A : Array Value) :
    Step UTag w ρ ((w.alloc (.cells (ints (List.replicate wd 0)).toArray 2)).alloc (.cells A 50)).drew (ρ.put w.heap.size (13, 0)) ∧
    URepAt ((w.alloc (.cells (ints (List.replicate wd 0)).toArray 2)).alloc (.cells A 50)).drew (ρ.put w.heap.size (13, 0)) u a S ko kc vo vc ∧
    Blk ((w.alloc (.cells (ints (List.replicate wd 0)).toArray 2)).alloc (.cells A 50)).drew w.heap.size 2 (ints (List.replicate wd 0)) ∧ (ρ.put w.heap.size (13, 0)) w.heap.size = some (13, 0) ∧
    Blk ((w.alloc (.cells (ints (List.replicate wd 0)).toArray 2)).alloc (.cells A 50)).drew (w.heap.size + 1) 50 A.toList := by
  have hs := ((((Step.refl (fun _ => False) w ρ).alloc_tag (.cells (ints (List.replicate wd 0)).toArray 2) (13, 0)).alloc (.cells A 50)).drew)
  refine ⟨hs.mono (fun _ h => h.elim), h.step0 hs, ?_, Ghost.put_same _ _ _, ?_⟩
  · exact ((Blk.new w (ints (List.replicate wd 0)) 2).alloc _).drew
  · have := (Blk.new' (w.alloc (.cells (ints (List.replicate wd 0)).toArray 2)) A 50).drew
    have e : (w.alloc (.cells (ints (List.replicate wd 0)).toArray 2)).heap.size = w.heap.size + 1 := Array.size_push _
    rw [e] at this
    exact this
theorem cellsV_add (cs : List UC) (c : UC) : cellsV (cs ++ [c]) = cellsV cs ++ cellV c := by simp [cellsV]
theorem URepAt.alc2 {w : World} {ρ : Ghost} {u a : Nat} {S : USt} {ko kc : Nat} {vo vc : Value} (h : URepAt w ρ u a S ko kc vo vc) (i ad g wd : Nat) (hg : Blk w g 2 (ints (List.replicate wd 0))) (hgt : ρ g = some (13, 0)) (hnew : ∀ c ∈ S.cs, c.g ≠ g)
    {w' : World} {ρ' : Ghost} {v' : Value} (hO : OwnSl w' ρ' (12, kc) 50 3 v' (S.cs.length + 1) (cellsV S.cs ++ cellV ⟨i, ad, g, List.replicate wd 0⟩)) (hs : Step (· = (12, kc)) w ρ w' ρ') :
    Blk w' u 45 [.pointer (some ⟨a, 0, none⟩), .int .i64 S.many, vo, vc, .bool S.large] ∧ Step UTag w ρ (w'.setCell ⟨u, 3, none⟩ v') ρ' ∧
    URepAt (w'.setCell ⟨u, 3, none⟩ v') ρ' u a ⟨S.s, S.many, S.opn, S.cs ++ [⟨i, ad, g, List.replicate wd 0⟩], S.large⟩ ko kc vo v' := by
  have hb := hs.blk' h.blk h.tag (by simp)
  have ht := hs.tag h.blk.lt h.tag
  have hc : Step (· = ((10, 0) : Tag)) w' ρ' (w'.setCell ⟨u, 3, none⟩ v') ρ' := Step.setCell (T := fun x => x = ((10, 0) : Tag)) (Step.refl _ w' ρ') (a := ⟨u, 3, none⟩) ht rfl _
  refine ⟨hb, (hs.mono (by rintro t rfl; exact utag_ge (by simp) (by simp))).trans (hc.mono (by rintro t rfl; exact utag_ge (by simp) (by simp))), ?_⟩
  exact {
    blk := hb.setCell 3 v'
    tag := ht
    st := (h.st.step' hs (by rintro t h1 rfl; exact not_stag (by simp) h1)).step' hc (by rintro t h1 rfl; exact not_stag (by simp) h1)
    o := (h.o.step hs (by simp)).step hc (by simp)
    c := by
      have := hO.step hc (by simp)
      dsimp only
      rw [cellsV_add, List.length_append]
      exact this
    f := by
      intro c hc'
      rw [List.mem_append, List.mem_singleton] at hc'
      rcases hc' with hc' | rfl
      · exact ⟨hc.blk' (hs.blk' (h.f c hc').1 (h.f c hc').2 (by simp)) (hs.tag (h.f c hc').1.lt (h.f c hc').2) (by simp), hs.tag (h.f c hc').1.lt (h.f c hc').2⟩
      · exact ⟨hc.blk' (hs.blk' hg hgt (by simp)) (hs.tag hg.lt hgt) (by simp), hs.tag hg.lt hgt⟩
    nd := by
      dsimp only
      rw [List.map_append, List.nodup_append]
      refine ⟨h.nd, by simp, ?_⟩
      intro x hx y hy
      obtain ⟨c, hc', rfl⟩ := List.mem_map.1 hx
      simp only [List.map_cons, List.map_nil, List.mem_singleton] at hy
      subst hy
      exact hnew c hc' }
theorem URepAt.wide {w : World} {ρ : Ghost} {u a : Nat} {S : USt} {ko kc : Nat} {vo vc : Value} (h : URepAt w ρ u a S ko kc vo vc) :
    URepAt (w.setCell ⟨u, 4, none⟩ (.bool true)) ρ u a { S with large := true } ko kc vo vc ∧ Step (· = (10, 0)) w ρ (w.setCell ⟨u, 4, none⟩ (.bool true)) ρ := by
  have hc : Step (· = ((10, 0) : Tag)) w ρ (w.setCell ⟨u, 4, none⟩ (.bool true)) ρ := Step.setCell (T := fun x => x = ((10, 0) : Tag)) (Step.refl _ w ρ) (a := ⟨u, 4, none⟩) h.tag rfl _
  refine ⟨?_, hc⟩
  exact {
    blk := h.blk.setCell 4 (.bool true)
    tag := h.tag
    st := h.st.step' hc (by rintro t h1 rfl; exact not_stag (by simp) h1)
    o := h.o.step hc (by simp)
    c := h.c.step hc (by simp)
    f := fun c hc' => ⟨hc.blk' (h.f c hc').1 (h.f c hc').2 (by simp), (h.f c hc').2⟩
    nd := h.nd }

end Go.Proofs.Ytgejmgomliadmaa
