/- slices.Insert at cells. -/
import Derived.Test.YtgejmgomliadmaaStD
import Derived.Test.YtgejmgomliadmaaHeapB
import Derived.StillTailTactics
import Derived.Lib.Overlaps
set_option linter.unusedVariables false
namespace Go.Proofs.Ytgejmgomliadmaa
open Go Go.RowKit

theorem info63 : (Try.prog.info? 63).map (fun i => (i.zero, i.size, i.bytes)) = some (some (.agg #[.int .i64 0, .int .i64 0]), 2, 16) := by kernel_rfl
theorem info63s : (Try.prog.info? 63).map (·.size) = some 2 := by kernel_rfl

theorem take_app {A B : List Value} {n : Nat} (h : n = A.length) : (A ++ B).take n = A := by rw [h]; exact List.take_left
theorem ins_lists (L xs news : List Value) (i n : Nat) (hxl : xs.length = n * 2) (hn : news.length = 2) (hi : i < n) (hL : (n + 1) * 2 ≤ L.length) (hk : L.take (i * 2) = xs.take (i * 2)) :
    (splice (splice L (i * 2) news) ((i + 1) * 2) (xs.drop (i * 2))).take ((n + 1) * 2) = xs.take (i * 2) ++ news ++ xs.drop (i * 2) := by
  have hA : (splice L (i * 2) news).take ((i + 1) * 2) = xs.take (i * 2) ++ news := by
    unfold splice
    rw [take_app (by simp; omega), hk]
  unfold splice at hA ⊢
  rw [hA, take_app (by simp; omega)]
theorem ins_lists2 (L xs news : List Value) (i n : Nat) (hxl : xs.length = n * 2) (hn : news.length = 2) (hi : i < n) (hL : (n + 1) * 2 ≤ L.length) (hk : L.take (n * 2) = xs) :
    (splice (splice L ((i + 1) * 2) (xs.drop (i * 2))) (i * 2) news).take ((n + 1) * 2) = xs.take (i * 2) ++ news ++ xs.drop (i * 2) := by
  have hA : (splice L ((i + 1) * 2) (xs.drop (i * 2))).take (i * 2) = xs.take (i * 2) := by
    unfold splice
    rw [List.append_assoc, List.take_append_of_le_length (by simp; omega), List.take_take, Nat.min_eq_left (by omega), ← hk, List.take_take, Nat.min_eq_left (by omega)]
  have hD : (splice L ((i + 1) * 2) (xs.drop (i * 2))).drop (i * 2 + news.length) = xs.drop (i * 2) ++ L.drop ((i + 1) * 2 + (xs.drop (i * 2)).length) := by
    unfold splice
    rw [List.append_assoc, List.drop_append_of_le_length (by simp; omega), List.drop_eq_nil_of_le (by simp; omega), List.nil_append]
  rw [splice, hA, hD, ← List.append_assoc, take_app (by simp; omega)]

def InsPost (ρ : Ghost) (t : Tag) (n : Nat) (xs : List Value) (w : World) (e : Ending) (w' : World) : Prop := ∃ v ρ', e = .returned v ∧ OwnSl w' ρ' t 63 2 v n xs ∧ Step (· = t) w ρ w' ρ'

set_option maxRecDepth 100000 in
theorem ins_end (w : World) (ρ : Ghost) (t : Tag) (A : Option Addr) (n c B : Nat) (xs news : List Value) (hO : OwnSl w ρ t 63 2 (.slice A n c) n xs) (hl : n ≤ 1000000)
    (hB : Blk w B 63 news) (hnl : news.length = 2) (h1 : ∀ u ∈ news, u.oneCell' = true) :
    Calls Try.prog 38 #[.slice A n c, .int .i64 n, .slice (some ⟨B, 0, none⟩) 1 1] w (InsPost ρ t (n + 1) (xs ++ news) w) := by
  obtain ⟨A', c', he, hc1, hc2⟩ := hO.form
  cases he
  go_enter Try.func38, Try.ntmps38
  go_wp2_with (at_builtin; refine wpList_appendS rfl _ _ _ rfl 63 _ 2 16 Try.underlying56 info63 rfl (by decide) ρ t (.slice A n c) n xs rfl hO ⟨B, 0, none⟩ 1 1 news rfl (by simpa using hnl) (fun j u hu => by rw [add_plainS, hB.at, hu]) h1 (by unfold maxLen; omega) (by omega) (fun v1 w1 ρ1 hO1 hS1 => ?_))
  all_goals
    go_wp2
    go_ret
    exact ⟨v1, ρ1, rfl, hO1, hS1⟩

set_option maxRecDepth 100000 in
theorem ins_grow (w : World) (ρ : Ghost) (t : Tag) (A : Option Addr) (n c i B : Nat) (xs news : List Value) (hO : OwnSl w ρ t 63 2 (.slice A n c) n xs) (hl : n ≤ 1000000)
    (hB : Blk w B 63 news) (hnl : news.length = 2) (h1 : ∀ u ∈ news, u.oneCell' = true) (hi : i < n) (hc : c < n + 1) (hx1 : ∀ u ∈ xs, u.oneCell' = true) :
    Calls Try.prog 38 #[.slice A n c, .int .i64 i, .slice (some ⟨B, 0, none⟩) 1 1] w (InsPost ρ t (n + 1) (xs.take (i * 2) ++ news ++ xs.drop (i * 2)) w) := by
  obtain ⟨g, c', he, hg, hc1, hc2, hcell, hfr, hgl⟩ := hO.some (by omega)
  cases he
  have hOc := hO.cut i c (by omega) (Nat.le_refl _) (by omega) (fun h => by cases h)
  have e1 : (0 : Int) ≤ (n : Int) + 1 - i := by omega
  go_enter Try.func38, Try.ntmps38
  go_wp2_with (first
    | (at_builtin; refine wpList_append_zerosS rfl _ _ _ _ rfl 63 _ 2 16 Try.underlying56 Try.underlying3 info63 rfl (by decide) (by decide) ρ t (.slice (some ⟨g, 0, none⟩) i c) i (xs.take (i * 2)) rfl hOc .i64 _ (n + 1 - i) rfl (by omega) ?z1 (by omega) ?z2))
  case z1 => exact zeroCells_one _ _ (by simp [Value.cells, Value.oneCell'])
  case z2 =>
  intro v1 w1 ρ1 hO1 hS1 hG1
  have hlen1 := hO1.len
  have hN : i + (n + 1 - i) = n + 1 := by omega
  rw [hN] at hO1 hlen1
  obtain ⟨g1, c1, L, rfl, hg1, hb1, k1, k2, k3, k4⟩ := hO1.opn (by omega)
  obtain ⟨hG, hG2⟩ := hG1 (by simp only [capOf]; omega)
  have hgg : w.heap.size ≤ g1 := hG2 g1 rfl
  have hB1 := hB.of_heap (hG.block B hB.lt)
  have hLn : (n + 1) * 2 ≤ L.length := by omega
  have hxl := hO.len
  have hsrc : ∀ j u, (xs.drop (i * 2))[j]? = some u → w1.cell? ⟨g, i * 2 + j, none⟩ = some u := by
    intro j u hu
    rw [List.getElem?_drop] at hu
    have hlt := (List.getElem?_eq_some_iff.1 hu).1
    rw [hG.cell (by exact hgl), hcell _ (by omega)]
    exact hu
  have K4 := Hd.mk k4
  have HG := Hd.mk hG
  have HS1 := Hd.mk hS1
  have HSRC := Hd.mk hsrc
  clear k4 hG hG2 hS1 hsrc hG1 hcell hfr hOc hlen1 hN hxl
  unfold maxLen at k2 hc2
  have q1 : i ≤ n + 1 := by omega
  have q2 : (i : Int) ≤ (n : Int) + 1 := by omega
  have q3 : i < c1 := by omega
  have q4 : (i : Int) < c1 := by omega
  have q5 : i + 1 < c1 := by omega
  have q6 : (i : Int) + 1 ≤ (n : Int) + 1 := by omega
  have q7 : (i : Int) + 1 < c1 := by omega
  have q8 : i ≤ n := by omega
  have q9 : ¬ (c = i) := by omega
  have q10 : ¬ (c1 = i + 1) := by omega
  have q11 : ¬ ((c1 : Int) = (i : Int) + 1) := by omega
  go_wp2_with (with_reducible refine wpList_copyB rfl _ _ 56 56 rfl 63 2 Try.underlying56 info63s g1 (i * 2) (n + 1 - i) (c1 - i) 63 L ?d1 hb1 (some ⟨B, 0, none⟩) 1 1 ?d2 news ?d3 ?d4 ?d5 h1 ρ1 t hg1 ?d6)
  case d1 => rfl
  case d2 => rfl
  case d3 => rw [hnl, show Nat.min 1 (n + 1 - i) = 1 from Nat.min_eq_left (by omega)]
  case d4 => exact .inr ⟨_, rfl, fun j u hu => by rw [add_plainS, hB1.at, hu]⟩
  case d5 => omega
  case d6 =>
  intro w2 hb2 hS2 hF2
  have HSRC2 : Hd (∀ (j : Nat) (u : Value), (xs.drop (i * 2))[j]? = some u → w2.cell? ⟨g, i * 2 + j, none⟩ = some u) := ⟨fun j u hu => by
    rw [World.cell?_of_block (hF2 g (by omega))]
    exact HSRC.out j u hu⟩
  have HS2 := Hd.mk hS2
  clear hS2 hF2 HSRC
  have f1 : IntKind.i64.wrap ((i : Int) + 1) = (i : Int) + 1 := IntWalk.i64_in _ (by omega)
  have f2 : ((i : Int) + 1).toNat = i + 1 := by omega
  have f3 : (0 : Int) ≤ (i : Int) + 1 := by omega
  go_wp2_with fail
  go_still_tail 8, (by kernel_rfl)
  clear f1 f2 f3
  change wpList _ _ _ _ _ w2.drew
  go_wp2_with (with_reducible refine wpList_copyB rfl _ _ 56 56 rfl 63 2 Try.underlying56 info63s g1 ((i + 1) * 2) (n + 1 - (i + 1)) (c1 - (i + 1)) 63 _ ?d1 hb2.drew (some ⟨g, i * 2, none⟩) (n - i) (c - i) ?d2 (xs.drop (i * 2)) ?d3 ?d4 ?d5 ?d6 ρ1 t hg1 ?d7)
  case d1 => unfold Act.eval; simp
  case d2 => rfl
  case d3 => rw [show (n - i).min (n + 1 - (i + 1)) = n - i from Nat.min_eq_left (by omega), List.length_drop, hO.len]; omega
  case d4 => exact .inr ⟨_, rfl, fun j u hu => by rw [add_plainO]; exact HSRC2.out j u hu⟩
  case d5 => rw [splice_length (by omega), List.length_drop, hO.len]; omega
  case d6 => exact fun u hu => hx1 u (List.mem_of_mem_drop hu)
  case d7 =>
  intro w3 hb3 hS3 hF3
  have hxl := hO.len
  have hL3 : (splice (splice L (i * 2) news) ((i + 1) * 2) (xs.drop (i * 2))).length = L.length := by
    rw [splice_length (by rw [splice_length (by omega), List.length_drop]; omega), splice_length (by omega)]
  have hk : L.take (i * 2) = xs.take (i * 2) := by
    have h := congrArg (List.take (i * 2)) K4.out
    rw [List.take_take, Nat.min_eq_left (by omega), List.take_append_of_le_length (by simp; omega), List.take_take, Nat.min_self] at h
    exact h
  have HFIN := Hd.mk (ins_lists L xs news i n hxl hnl hi (by omega) hk)
  have HSTEP : Hd (Step (· = t) w ρ w3 ρ1) := ⟨(HS1.out.trans HS2.out).drew.trans hS3⟩
  have HL3 := Hd.mk hL3
  have hgt := HSTEP.out
  clear hk hF3 hS3 hL3 hxl hgt
  go_wp2
  go_ret
  exact ⟨_, ρ1, rfl, OwnSl.mk hg1 hb3 (by omega) (by unfold maxLen; omega) (by rw [HL3.out]; omega) HFIN.out, HSTEP.out⟩

theorem size63 : ∀ w, (Go.sizeOf 63).run Try.prog w = .ok 2 w := fun _ => by kernel_rfl
theorem overlaps_no (w : World) (g B o lb cb : Nat) (L M : List Value) (hB : Blk w B 63 M) (hg : Blk w g 63 L) (hne : B ≠ g) (hL : L ≠ []) :
    (callFunc 47 #[.slice (some ⟨B, 0, none⟩) 1 1, .slice (some ⟨g, o, none⟩) lb cb]).run Try.prog w = .ok (.value (.bool false)) w := by
  rw [run_callFunc_extern Try.func47 (by kernel_rfl) (by kernel_rfl) (by kernel_rfl) (e := Extern.SlicesOverlaps.overlaps #[56, 56] #[4]) (by kernel_rfl),
    Lib.run_overlaps_apart w 56 4 63 Try.underlying56 2 size63 ⟨B, 0, none⟩ ⟨g, o, none⟩ 1 1 lb cb hne 63 63 M.length L.length hB.shape hg.shape (by simpa using hL) (hB.free _) (hB.free _)]
  rfl

set_option maxRecDepth 100000 in
theorem ins_mid (w : World) (ρ : Ghost) (t : Tag) (A : Option Addr) (n c i B : Nat) (xs news : List Value) (hO : OwnSl w ρ t 63 2 (.slice A n c) n xs) (hl : n ≤ 1000000)
    (hB : Blk w B 63 news) (hBt : ρ B ≠ some t) (hnl : news.length = 2) (h1 : ∀ u ∈ news, u.oneCell' = true) (hi : i < n) (hc : n + 1 ≤ c) (hx1 : ∀ u ∈ xs, u.oneCell' = true) :
    Calls Try.prog 38 #[.slice A n c, .int .i64 i, .slice (some ⟨B, 0, none⟩) 1 1] w (InsPost ρ t (n + 1) (xs.take (i * 2) ++ news ++ xs.drop (i * 2)) w) := by
  obtain ⟨g, c', L, he, hg, hb, hc1, hc2, k3, k4⟩ := hO.opn (by omega)
  cases he
  have hne : B ≠ g := by rintro rfl; exact hBt hg
  have K4 := Hd.mk k4
  clear k4
  unfold maxLen at hc2
  have q1 : i ≤ n := by omega
  have q3 : i < c := by omega
  have q5 : i + 1 < c := by omega
  have q9 : ¬ (c = i) := by omega
  have q10 : ¬ (c = i + 1) := by omega
  have q11 : n + 1 ≤ c := hc
  have q12 : ¬ (c < n + 1) := by omega
  have q13 : i ≤ n + 1 := by omega
  have q14 : (i : Int) ≤ (n : Int) + 1 := by omega
  have q15 : (i : Int) + 1 ≤ (n : Int) + 1 := by omega
  have hov := fun lb cb => overlaps_no w g B ((i + 1) * 2) lb cb L news hB hb hne (by rintro rfl; simp at k3; omega)
  go_enter Try.func38, Try.ntmps38
  have f1 : IntKind.i64.wrap ((i : Int) + 1) = (i : Int) + 1 := IntWalk.i64_in _ (by omega)
  have f2 : ((i : Int) + 1).toNat = i + 1 := by omega
  have f3 : (0 : Int) ≤ (i : Int) + 1 := by omega
  have hxl := hO.len
  have HXL := Hd.mk hxl
  have hsrc : ∀ j u, (xs.drop (i * 2))[j]? = some u → w.cell? ⟨g, i * 2 + j, none⟩ = some u := by
    intro j u hu
    have hlt := (List.getElem?_eq_some_iff.1 hu).1
    rw [List.getElem?_drop] at hu
    rw [hb.at]
    have h := congrArg (fun l => l[i * 2 + j]?) K4.out
    simp only [List.getElem?_take] at h
    rw [if_pos (by simp at hlt; omega)] at h
    rw [h]
    exact hu
  have HSRC := Hd.mk hsrc
  clear hsrc hxl
  go_wp2_with fail
  go_still_tail 8, (by kernel_rfl)
  clear f1 f2 f3 hov
  change wpList _ _ _ _ _ w.drew
  go_wp2_with (with_reducible refine wpList_copyB rfl _ _ 56 56 rfl 63 2 Try.underlying56 info63s g ((i + 1) * 2) (n + 1 - (i + 1)) (c - (i + 1)) 63 _ ?d1 hb.drew (some ⟨g, i * 2, none⟩) (n + 1 - i) (c - i) ?d2 (xs.drop (i * 2)) ?d3 ?d4 ?d5 ?d6 ρ t hg ?d7)
  case d1 => unfold Act.eval; simp
  case d2 => rfl
  case d3 => rw [show (n + 1 - i).min (n + 1 - (i + 1)) = n - i from (Nat.min_eq_right (by omega)).trans (by omega), List.length_drop, HXL.out]; omega
  case d4 => exact .inr ⟨_, rfl, fun j u hu => by rw [add_plainO]; exact HSRC.out j u hu⟩
  case d5 => rw [List.length_drop, HXL.out]; omega
  case d6 => exact fun u hu => hx1 u (List.mem_of_mem_drop hu)
  case d7 =>
  intro w2 hb2 hS2 hF2
  have hB2 : Blk w2 B 63 news := hB.of_heap (hF2 B hne)
  have HS2 := Hd.mk hS2
  clear hS2 hF2 HSRC
  go_wp2_with (with_reducible refine wpList_copyB rfl _ _ 56 56 rfl 63 2 Try.underlying56 info63s g (i * 2) (n + 1 - i) (c - i) 63 _ ?d1 hb2 (some ⟨B, 0, none⟩) 1 1 ?d2 news ?d3 ?d4 ?d5 h1 ρ t hg ?d7)
  case d1 => first | rfl | (unfold Act.eval; simp)
  case d2 => rfl
  case d3 => rw [hnl, show Nat.min 1 (n + 1 - i) = 1 from Nat.min_eq_left (by omega)]
  case d4 => exact .inr ⟨_, rfl, fun j u hu => by rw [add_plainS, hB2.at, hu]⟩
  case d5 => rw [splice_length (by rw [List.length_drop, HXL.out]; omega), hnl]; omega
  case d7 =>
  intro w3 hb3 hS3 hF3
  have hL3 : (splice (splice L ((i + 1) * 2) (xs.drop (i * 2))) (i * 2) news).length = L.length := by
    rw [splice_length (by rw [splice_length (by rw [List.length_drop, HXL.out]; omega), hnl]; omega), splice_length (by rw [List.length_drop, HXL.out]; omega)]
  have HFIN := Hd.mk (ins_lists2 L xs news i n HXL.out hnl hi (by omega) K4.out)
  have HSTEP : Hd (Step (· = t) w ρ w3 ρ) := ⟨((Step.refl _ w ρ).drew.trans HS2.out).trans hS3⟩
  have HL3 := Hd.mk hL3
  clear hF3 hS3 hL3
  go_wp2
  go_ret
  exact ⟨_, ρ, rfl, OwnSl.mk hg hb3 (by omega) (by unfold maxLen; omega) (by rw [HL3.out]; omega) HFIN.out, HSTEP.out⟩

/-- slices.Insert of one element. -/
theorem ins_any (w : World) (ρ : Ghost) (t : Tag) (A : Option Addr) (n c i B : Nat) (xs news : List Value) (hO : OwnSl w ρ t 63 2 (.slice A n c) n xs) (hl : n ≤ 1000000)
    (hB : Blk w B 63 news) (hBt : ρ B ≠ some t) (hnl : news.length = 2) (h1 : ∀ u ∈ news, u.oneCell' = true) (hi : i ≤ n) (hx1 : ∀ u ∈ xs, u.oneCell' = true) :
    Calls Try.prog 38 #[.slice A n c, .int .i64 i, .slice (some ⟨B, 0, none⟩) 1 1] w (InsPost ρ t (n + 1) (xs.take (i * 2) ++ news ++ xs.drop (i * 2)) w) := by
  rcases Nat.lt_or_eq_of_le hi with hlt | rfl
  · rcases Nat.lt_or_ge c (n + 1) with hc | hc
    · exact ins_grow w ρ t A n c i B xs news hO hl hB hnl h1 hlt hc hx1
    · exact ins_mid w ρ t A n c i B xs news hO hl hB hBt hnl h1 hlt hc hx1
  · have h := ins_end w ρ t A i c B xs news hO hl hB hnl h1
    have e1 : xs.take (i * 2) = xs := List.take_of_length_le (by rw [hO.len]; omega)
    have e2 : xs.drop (i * 2) = [] := List.drop_eq_nil_of_le (by rw [hO.len]; omega)
    rw [e1, e2, List.append_nil]
    exact h

end Go.Proofs.Ytgejmgomliadmaa
