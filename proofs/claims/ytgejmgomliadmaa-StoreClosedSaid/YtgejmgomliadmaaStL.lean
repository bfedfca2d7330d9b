/- The store in memory: Close, up to the sort. -/
import Derived.Test.YtgejmgomliadmaaStK
import Derived.Test.YtgejmgomliadmaaSort
set_option linter.unusedVariables false
namespace Go.Proofs.Ytgejmgomliadmaa
open Go Go.RowKit

def sortL (l : List Int) : List Int := l.mergeSort fun x y => decide (x ≤ y)
theorem sortL_length (l : List Int) : (sortL l).length = l.length := by simp [sortL]
open Go.Sort in
theorem putRow_blk {w : World} {g : Nat} {T : TypeId} {L : List Value} (hb : Blk w g T L) (n : Nat) (d : List Int) (os : Array Obj) :
    Blk (grow (putRow (Value.int .i64) (Go.Sort.ahead w n) g 0 d.toArray) os) g T (L.mapIdx fun k x => if k < d.length then .int .i64 (d.getD k 0) else x) := by
  have hlt := hb.lt
  unfold Blk at hb ⊢
  have h1 : (putRow (Value.int .i64) (Go.Sort.ahead w n) g 0 d.toArray).heap[g]? = some (.cells (L.mapIdx fun k x => if k < d.length then .int .i64 (d.getD k 0) else x).toArray T (0, 0)) := by
    simp only [putRow, mapBlock, Go.Sort.ahead]
    rw [Array.getElem?_modify, if_pos rfl, hb]
    simp only [Option.map_some, onCells]
    congr 2
    simp only [putCells]
    apply Array.ext
    · simp
    · intro k h1 h2
      simp
  have hsz : g < (putRow (Value.int .i64) (Go.Sort.ahead w n) g 0 d.toArray).heap.size := by
    simpa [putRow, mapBlock, Go.Sort.ahead] using hlt
  simp only [grow]
  rw [Array.getElem?_append_left hsz, h1]
open Go.Sort in
theorem putRow_far {w : World} {g k : Nat} (hk : k < w.heap.size) (hne : k ≠ g) (n : Nat) (d : List Int) (os : Array Obj) :
    (grow (putRow (Value.int .i64) (Go.Sort.ahead w n) g 0 d.toArray) os).heap[k]? = w.heap[k]? := by
  have hsz : k < (putRow (Value.int .i64) (Go.Sort.ahead w n) g 0 d.toArray).heap.size := by
    simpa [putRow, mapBlock, Go.Sort.ahead] using hk
  simp only [grow]
  rw [Array.getElem?_append_left hsz]
  simp only [putRow, mapBlock, Go.Sort.ahead]
  rw [Array.getElem?_modify, if_neg (by omega)]

def SortPost (ρ : Ghost) (t : Tag) (v : Value) (l : List Int) (w : World) (e : Ending) (w' : World) : Prop := e = .returned (.tuple #[]) ∧ OwnSl w' ρ t 3 1 v l.length (ints (sortL l)) ∧ Step (· = t) w ρ w' ρ
open Go.Sort in
theorem sort_any (w : World) (ρ : Ghost) (t : Tag) (v : Value) (l : List Int) (hO : OwnSl w ρ t 3 1 v l.length (ints l)) (hl : l.length ≤ 1000000) :
    Calls Try.prog 32 #[v] w (SortPost ρ t v l w) := by
  rcases Nat.eq_zero_or_pos l.length with h0 | h0
  · obtain ⟨A, c, rfl, _, _⟩ := hO.form
    obtain rfl : l = [] := List.eq_nil_of_length_eq_zero h0
    refine (slices_Sort_int_none A c w).mono ?_
    rintro e w' ⟨rfl, rfl⟩
    exact ⟨rfl, by simpa [sortL] using hO, Step.refl _ _ _⟩
  · obtain ⟨g, c, L, rfl, hg, hb, h1, h2, h3, h4⟩ := hO.opn h0
    refine (slices_Sort_int g 0 c l w ?_ hb.lt (by omega)).mono ?_
    · intro j hj
      simp only [List.size_toArray] at hj
      refine ⟨?_, hb.free _⟩
      rw [Nat.zero_add, hb.at]
      have h := congrArg (fun q => q[j]?) h4
      simp only [List.getElem?_take] at h
      rw [if_pos (by omega)] at h
      rw [h, ints_get hj]
      simp [List.getD_eq_getElem?_getD, hj]
    · rintro e w' ⟨rfl, n, os, rfl⟩
      refine ⟨rfl, OwnSl.mk hg (putRow_blk hb n (sortL l) os) h1 h2 (by simpa using h3) ?_, ?_⟩
      · apply List.ext_getElem?
        intro k
        rw [List.getElem?_take]
        by_cases hk : k < l.length * 1
        · rw [if_pos hk, List.getElem?_mapIdx, ints_get (by rw [sortL_length]; omega)]
          have : k < L.length := by omega
          rw [List.getElem?_eq_getElem this]
          simp only [Option.map_some]
          rw [if_pos (by rw [sortL_length]; omega)]
        · rw [if_neg hk, List.getElem?_eq_none (by rw [ints_length, sortL_length]; omega)]
      · refine ⟨rfl, rfl, rfl, ?_, fun _ _ => rfl, fun k hk hn => putRow_far hk (by rintro rfl; exact hn t hg rfl) n (sortL l) os, fun f k hk => f k ?_⟩
        · simp [grow, putRow, mapBlock, Go.Sort.ahead]
        · simp [grow, putRow, mapBlock, Go.Sort.ahead] at hk
          omega

def wordsOf (l : List (Int × Int)) : Int := (l.map (·.2)).sum
theorem wordsOf_take {l : List (Int × Int)} {j : Nat} {c : Int × Int} (h : l[j]? = some c) : wordsOf (l.take (j + 1)) = wordsOf (l.take j) + c.2 := by
  rw [List.take_add_one, h]
  simp [wordsOf]

theorem len_set {css : List (List Value)} {n i : Nat} {c : List Value} (h : ∀ cs ∈ css, cs.length = n) (hc : c.length = n) : ∀ cs ∈ css.set i c, cs.length = n := by
  intro cs hcs
  rcases List.mem_or_eq_of_mem_set hcs with h1 | h1
  · exact h cs h1
  · rw [h1]; exact hc
theorem flat5 {css : List (List Value)} (h : ∀ cs ∈ css, cs.length = 5) {i : Nat} {c0 c1 c2 c3 c4 d0 d1 d2 d3 d4 : Value} (hi : css[i]? = some [c0, c1, c2, c3, c4]) :
    ((((css.flatten.set (i * 5) d0).set (i * 5 + 1) d1).set (i * 5 + 2) d2).set (i * 5 + 3) d3).set (i * 5 + 4) d4 = (css.set i [d0, d1, d2, d3, d4]).flatten := by
  have hlt := (List.getElem?_eq_some_iff.1 hi).1
  have s0 := flatten_set css h i 0 _ d0 hi (by omega)
  rw [Nat.add_zero] at s0
  rw [s0]
  rw [flatten_set _ (len_set h rfl) i 1 _ d1 (List.getElem?_set_self hlt) (by omega), List.set_set,
    flatten_set _ (len_set h rfl) i 2 _ d2 (List.getElem?_set_self hlt) (by omega), List.set_set,
    flatten_set _ (len_set h rfl) i 3 _ d3 (List.getElem?_set_self hlt) (by omega), List.set_set,
    flatten_set _ (len_set h rfl) i 4 _ d4 (List.getElem?_set_self hlt) (by omega), List.set_set]
  rfl
/-- What Close may touch. -/
def CloseT (t : Tag) : Prop := t = (1, 0) ∨ t = (2, 0) ∨ t = (4, 0)
def closeS (s : PSt) (i : Nat) (r : PReg) : PSt := { s with regs := s.regs.set i PReg.none, held := s.held - wordsOf r.cls, used := s.used - r.pgs.length, wait := sortL (s.wait ++ r.pgs) }

theorem close_core {w W : World} {ρ ρ2 : Ghost} {a g c i : Nat} {s : PSt} {r : PReg} {vr vp vw vw2 : Value} {css : List (List Value)} {LR : List Value}
    (H : RepAt w ρ a s vr vp vw css) (hi : s.regs[i]? = some r) (hv : vr = .slice (some ⟨g, 0, none⟩) s.regs.length c)
    (hLR : LR.take (s.regs.length * 5) = css.flatten ∧ s.regs.length ≤ c ∧ c ≤ maxLen ∧ c * 5 ≤ LR.length)
    (hS : Step CloseT w ρ W ρ2) (held used : Int) (wait : List Int)
    (hbA : Blk W a 55 [.bool true, vr, vp, vw2, .int .i64 held, .int .i64 used]) (hta : ρ2 a = some (1, 0))
    (hbR : Blk W g 58 (((((LR.set (i * 5) (.bool false)).set (i * 5 + 1) (.slice none 0 0)).set (i * 5 + 2) (.slice none 0 0)).set (i * 5 + 3) (.int .i64 (-1))).set (i * 5 + 4) (.int .i64 0))) (htg : ρ2 g = some (2, 0))
    (hwt : OwnSl W ρ2 (4, 0) 3 1 vw2 wait.length (ints wait)) :
    Rep W ρ2 a { s with regs := s.regs.set i PReg.none, held := held, used := used, wait := wait } := by
  have hlt : i < s.regs.length := (List.getElem?_eq_some_iff.1 hi).1
  obtain ⟨_, _, vrp, vrc, _, _, _, _, _, hcsi, _⟩ := H.reg hi
  have nT : ∀ t : Tag, t ≠ (1, 0) → t ≠ (2, 0) → t ≠ (4, 0) → ¬ CloseT t := fun t h1 h2 h4 h => by rcases h with h | h | h <;> contradiction
  refine ⟨vr, vp, vw2, css.set i [.bool false, .slice none 0 0, .slice none 0 0, .int .i64 (-1), .int .i64 0], hbA, hta, ?_, H.pages.step hS (nT _ (by simp) (by simp) (by simp)), hwt, by simp [H.rows], ?_⟩
  · rw [hv]
    simp only [List.length_set]
    refine OwnSl.mk htg hbR hLR.2.1 hLR.2.2.1 (by simpa using hLR.2.2.2) ?_
    simp only [List.take_set]
    rw [hLR.1, flat5 H.five hcsi]
  · intro j rj cs h1 h2
    simp only [List.getElem?_set] at h1
    rw [List.getElem?_set] at h2
    by_cases hij : i = j
    · subst hij
      rw [if_pos rfl, if_pos hlt] at h1
      rw [if_pos rfl, if_pos (by rw [H.rows]; exact hlt)] at h2
      simp at h1 h2
      subst h1; subst h2
      exact ⟨_, _, rfl, OwnSl.nil .., OwnSl.nil ..⟩
    · rw [if_neg hij] at h1 h2
      exact (H.row j rj cs h1 h2).step hS (nT _ (by simp) (by simp) (by simp)) (nT _ (by simp) (by simp) (by simp))

theorem slice_full (w : World) (A : Option Addr) (n c : Nat) (hc : n ≤ c) (hA : A = none ∨ ∃ g, A = some ⟨g, 0, none⟩) :
    (Instr.slice 28 (.slice A n c) none (some (.int .i64 n)) (some (.int .i64 n))).run Try.prog w = .ok (.slice A n n) w := by
  have hsz : ∀ w, (sizeOf (Try.prog.elem 28)).run Try.prog w = .ok 1 w := fun _ => by kernel_rfl
  rw [run_slice_hm w 28 A n c (by kernel_rfl) .i64 .i64 n n (by omega) (by omega) (by omega), hsz]
  simp only [Result.andThen_ok, sliced, Int.toNat_natCast, Nat.sub_zero, Nat.zero_mul]
  congr 2
  rcases hA with rfl | ⟨g, rfl⟩
  · simp
  · simp only [Option.map_some, add_plainS]
    split <;> rfl

theorem wordsOf_range {l : List (Int × Int)} (h : ∀ c ∈ l, 0 ≤ c.2 ∧ c.2 ≤ 10000) (j : Nat) : 0 ≤ wordsOf (l.take j) ∧ wordsOf (l.take j) ≤ 10000 * l.length := by
  induction l generalizing j with
  | nil => simp [wordsOf]
  | cons x l ih =>
    cases j with
    | zero => simp [wordsOf]; omega
    | succ j =>
      have h1 := ih (fun c hc => h c (List.mem_cons_of_mem _ hc)) j
      have h2 := h x (List.mem_cons_self ..)
      simp only [wordsOf, List.take_succ_cons, List.map_cons, List.sum_cons, List.length_cons] at h1 ⊢
      omega

def ClosePost (ρ : Ghost) (a : Nat) (s : PSt) (w : World) (e : Ending) (w' : World) : Prop := ∃ ρ', e = .returned (.int .i64 0) ∧ Rep w' ρ' a s ∧ Step STag w ρ w' ρ'

theorem close_none (w : World) (ρ : Ghost) (a : Nat) (s : PSt) (H : Rep w ρ a s) (n : Int) (ho : isOpenB s n = false) :
    Calls Try.prog 13 #[.pointer (some ⟨a, 0, none⟩), .int .i64 n] w fun e w' => e = .returned (.int .i64 70) ∧ w = w' := by
  go_enter Try.func13, Try.ntmps13
  go_wp2_with fail
  refine (find_none w ρ a s H n ho).mono ?_
  rintro e w' ⟨rfl, rfl⟩
  go_wp2
  go_ret
  exact ⟨rfl, rfl⟩

set_option maxRecDepth 100000 in
theorem close_any (w : World) (ρ : Ghost) (a : Nat) (s : PSt) (H : Rep w ρ a s) (hF : Fine s) (i : Nat) (r : PReg) (hi : s.regs[i]? = some r) (hr : r.op = true) (hc : ∀ c ∈ r.cls, 0 ≤ c.2 ∧ c.2 ≤ 10000) :
    Calls Try.prog 13 #[.pointer (some ⟨a, 0, none⟩), .int .i64 i] w (ClosePost ρ a (closeS s i r) w) := by
  obtain ⟨vr, vp, vw, css, H⟩ := H
  obtain ⟨g, c, vrp, vrc, hv, hn1, hn2, hgt, hgl, hcsi, hOrp, hOrc, x0, x1, x2, x3, x4, xf⟩ := H.reg hi
  have HF := Hd.mk (find_open w ρ a s vr vp vw css H i r hi hr g c hv)
  obtain ⟨Ac, cc, rfl, hcc1, hcc2⟩ := hOrc.form
  have hncl := hF.cls r (List.mem_of_getElem? hi)
  obtain ⟨hh1, hh2⟩ := hF.held
  have HH := Hd.mk H
  have HOC := Hd.mk hOrc
  have HOP := Hd.mk hOrp
  have HG := Hd.mk hgt
  have HI := Hd.mk hi
  have HC := Hd.mk hc
  have HV := Hd.mk hv
  clear hOrc hOrp hcsi hv H hi hr hc
  go_enter Try.func13, Try.ntmps13
  go_wp2_with fail
  refine HF.out.mono ?_
  rintro e w' ⟨rfl, rfl⟩
  go_wp2
  go_loopw [19] (fun v wr => ∃ j : Nat, v = .int .i64 j ∧ j ≤ r.cls.length ∧ Blk wr a 55 [.bool true, vr, vp, vw, .int .i64 (s.held - wordsOf (r.cls.take j)), .int .i64 s.used] ∧ Step (· = (1, 0)) w ρ wr ρ) (fun v _ => r.cls.length - (intOf v).toNat)
  case atStart => exact ⟨0, by simp, by omega, by simpa [wordsOf] using HH.out.blk, Step.refl _ _ _⟩
  case round =>
    obtain ⟨j, rfl, hj, hbA, hS⟩ := hrel
    by_cases hlt : j < r.cls.length
    · obtain ⟨gc, cc', hcA, hgc, _, _, hcell, _, hgcl⟩ := HOC.out.some (by omega)
      cases hcA
      have hget : r.cls[j]? = some r.cls[j] := List.getElem?_eq_getElem hlt
      generalize r.cls[j] = y at hget
      have hwt := wordsOf_take hget
      obtain ⟨y1, y2⟩ := y
      have hyb := HC.out _ (List.mem_of_getElem? hget)
      obtain ⟨p1, p2⟩ := pairs_get hget
      have hbc := hS.block gc hgcl (by intro t ht; rw [hgc] at ht; cases ht; simp)
      have c1 := (World.cell?_of_block (a := ⟨gc, j * 2, none⟩) hbc).trans ((hcell (j * 2) (by omega)).trans p1)
      have c2 := (World.cell?_of_block (a := ⟨gc, j * 2 + 1, none⟩) hbc).trans ((hcell (j * 2 + 1) (by omega)).trans p2)
      dsimp only at c1 c2 hyb hwt
      obtain ⟨hy1, hy2⟩ := hyb
      have a4 := hbA.cell (i := 4) rfl
      have a4f := hbA.free 4
      have hwb0 := wordsOf_range HC.out j
      have hwb : 0 ≤ wordsOf (r.cls.take j) ∧ wordsOf (r.cls.take j) ≤ 10000 * 1000 := by omega
      clear hwb0
      generalize hww : wordsOf (r.cls.take j) = z at *
      have HW := Hd.mk hww
      have HWT := Hd.mk hwt
      have HS := Hd.mk hS
      have HBA := Hd.mk hbA
      have hal := hbA.lt
      have hgl2 : gc < wr.heap.size := Nat.lt_of_lt_of_le hgcl hS.size
      obtain ⟨hz1, hz2⟩ := hwb
      clear hww hwt hS hbc hcell p1 p2 hbA
      go_wp2_with fail
      have b4 := (HBA.out.alloc (Obj.cells #[Value.int .i64 y1, Value.int .i64 y2] 63))
      have d4 := b4.cell (i := 4) rfl
      have d4f := b4.free 4
      have d5 := (Blk.new' wr #[Value.int .i64 y1, Value.int .i64 y2] 63).cell (i := 1) rfl
      have hS' := HS.out.alloc (Obj.cells #[Value.int .i64 y1, Value.int .i64 y2] 63)
      have HB4 := Hd.mk b4
      have HS4 := Hd.mk hS'
      clear b4 hS' a4 a4f c1 c2
      have e1 : IntKind.i64.wrap (s.held - z - y2) = s.held - z - y2 := IntWalk.i64_in _ (by omega)
      generalize wr.alloc (Obj.cells #[Value.int .i64 y1, Value.int .i64 y2] 63) = W at *
      go_still_tail 9, (by kernel_rfl)
      clear e1
      change wpList _ _ _ _ _ W.drew
      go_wp2
      go_roundw
      case rel =>
        have hta := HS4.out.tag (b := a) HH.out.blk.lt HH.out.tag
        refine ⟨j + 1, by go_num, by omega, ?_, ?_⟩
        · have := (HB4.out.setCell 4 (.int .i64 (s.held - z - y2))).drew
          have e : s.held - wordsOf (r.cls.take (j + 1)) = s.held - z - y2 := by rw [HWT.out]; omega
          rw [e]
          exact this
        · exact (HS4.out.setCell hta (by simp) _).drew
      case measure => simp [intOf]; omega
    · have hj' : j = r.cls.length := by omega
      subst hj'
      rw [List.take_length] at hbA
      have hwb0 := wordsOf_range HC.out r.cls.length
      rw [List.take_length] at hwb0
      have hab := HH.out.blk.lt
      obtain ⟨Ap, cp, rfl, hcp1, hcp2⟩ := HOP.out.form
      have hpl := hF.pgs r (List.mem_of_getElem? HI.out)
      obtain ⟨hu1, hu2⟩ := hF.used
      have hbg := hS.block g hgl (by intro t ht; rw [HG.out] at ht; cases ht; simp)
      have g1 := (World.cell?_of_block (a := ⟨g, i * 5 + 1, none⟩) hbg).trans x1
      have a5 := hbA.cell (i := 5) rfl
      have a5f := hbA.free 5
      have HS := Hd.mk hS
      have HBA := Hd.mk hbA
      have HBG := Hd.mk hbg
      have HW0 := Hd.mk hwb0
      clear hS hbA hbg hwb0
      go_wp2_with fail
      go_still_tail 12, (by kernel_rfl)
      change wpList _ _ _ _ _ wr.drew
      go_wp2_with fail
      -- the waiting pages
      have hta := HS.out.tag (b := a) HH.out.blk.lt HH.out.tag
      have hb9 := HBA.out.setCell 5 (.int .i64 (s.used - r.pgs.length))
      have hS9 : Step (· = (1, 0)) w ρ (wr.setCell ⟨a, 5, none⟩ (.int .i64 (s.used - r.pgs.length))).drew ρ := (HS.out.setCell hta (by simp) _).drew
      have hb9' : Blk (wr.setCell ⟨a, 5, none⟩ (.int .i64 (s.used - r.pgs.length))).drew a 55 [.bool true, vr, vp, vw, .int .i64 (s.held - wordsOf r.cls), .int .i64 (s.used - r.pgs.length)] := hb9
      obtain ⟨Aw, cw, rfl, hcw1, hcw2⟩ := HH.out.wait.form
      have hAw : Aw = none ∨ ∃ gg, Aw = some ⟨gg, 0, none⟩ := by
        rcases HH.out.wait.2 with ⟨h, _⟩ | ⟨gg, _, _, h, _⟩
        · exact .inl (by injection h)
        · exact .inr ⟨gg, by injection h⟩
      have hAn : Aw = none → s.wait.length = 0 := fun h => by
        rcases HH.out.wait.2 with ⟨_, h⟩ | ⟨gg, _, _, h', _⟩
        · exact h
        · rw [h] at h'; cases h'
      have hOw := HH.out.wait.step hS9 (by simp)
      have hOw2 := hOw.cut s.wait.length s.wait.length (Nat.le_refl _) hcw1 (Nat.le_refl _) hAn
      rw [List.take_of_length_le (by rw [ints_length]; omega)] at hOw2
      have hOp9 := HOP.out.step hS9 (by simp)
      have hsl := fun W => slice_full W Aw s.wait.length cw hcw1 hAw
      have hbg9 := hS9.block g hgl (by intro t ht; rw [HG.out] at ht; cases ht; simp)
      have g9 := (World.cell?_of_block (a := ⟨g, i * 5 + 1, none⟩) hbg9).trans x1
      have a9 := hb9'.cell (i := 3) rfl
      have hnw := hF.nwait
      have HS9 := Hd.mk hS9
      have HB9 := Hd.mk hb9'
      have HOW := Hd.mk hOw2
      have HOP9 := Hd.mk hOp9
      generalize (wr.setCell ⟨a, 5, none⟩ (.int .i64 (s.used - r.pgs.length))).drew = W9 at *
      clear hOw hOw2 hOp9 hbg9 hb9 hb9' hS9 a5 a5f x0 x2 x3 x4 hAn hAw
      go_still_tail 19, (by kernel_rfl)
      clear hsl
      change wpList _ _ _ _ _ W9.drew
      refine wpList_append_two rfl _ _ 28 rfl 3 _ 1 8 Try.underlying28 info3 rfl (by decide) ρ (4, 0) (5, i) (.slice Aw s.wait.length s.wait.length) s.wait.length (ints s.wait) rfl HOW.out.drew (.slice Ap r.pgs.length cp) r.pgs.length (ints r.pgs) rfl HOP9.out.drew ?d1 (by unfold maxLen; omega) (by omega) ?d2
      case d1 => intro u hu; rw [ints] at hu; obtain ⟨_, _, rfl⟩ := List.mem_map.1 hu; rfl
      case d2 =>
      intro v2 w2 ρ2 hO2 hS2
      have HS3A : ∀ (w3 : World) (ρ3 : Ghost), Step (· = (4, 0)) w2 ρ2 w3 ρ3 → Step (fun t => t = (1, 0) ∨ t = (4, 0)) w ρ w3 ρ3 := fun w3 ρ3 h => ((HS9.out.mono (by rintro t rfl; simp)).drew.trans (hS2.mono (by rintro t rfl; simp))).trans (h.mono (by rintro t rfl; simp))
      have HS3B := Hd.mk HS3A
      clear HS3A
      have hS2' : Step CloseT w ρ w2 ρ2 := (((HS9.out.mono (by rintro t rfl; simp [CloseT])).drew).trans (hS2.mono (by rintro t rfl; simp [CloseT])))
      have hints : ints s.wait ++ ints r.pgs = ints (s.wait ++ r.pgs) := by simp [ints]
      rw [hints] at hO2
      have hlen : s.wait.length + r.pgs.length = (s.wait ++ r.pgs).length := by simp
      rw [hlen] at hO2
      have ht9 := HS9.out.tag (b := a) HH.out.blk.lt HH.out.tag
      have hb2 := hS2.blk' HB9.out.drew ht9 (by simp)
      have ht2 := hS2'.tag (b := a) HH.out.blk.lt HH.out.tag
      have HO2 := Hd.mk hO2
      have HS2 := Hd.mk hS2'
      have HB2 := Hd.mk hb2
      have hll : (s.wait ++ r.pgs).length ≤ 1000000 := by simp; omega
      clear hO2 hS2 hS2' hints hlen hb2 g9 a9
      go_wp2_with fail
      refine (sort_any w2 ρ2 (4, 0) v2 _ HO2.out hll).mono ?_
      rintro e w3 ⟨rfl, hO3, hS3⟩
      have hS3' := HS2.out.trans (hS3.mono (T' := CloseT) (by rintro t rfl; simp [CloseT]))
      have hb3 := hS3.blk' HB2.out ht2 (by simp)
      have ht3 := hS3.tag HB2.out.lt ht2
      generalize hnn : (s.wait ++ r.pgs).length = nn at *
      have HNN := Hd.mk hnn
      clear hnn
      obtain ⟨A3, c3, rfl, _, _⟩ := hO3.form
      -- the region is emptied
      obtain ⟨g', c', LR, hv', hgt', hbR, hR1, hR2, hR3, hR4⟩ := HH.out.regs.opn (by have := (List.getElem?_eq_some_iff.1 HI.out).1; omega)
      obtain ⟨_, _, _, _, hv2, _⟩ := HH.out.reg HI.out
      have hvr := HV.out
      rw [hvr] at hv'
      cases hv'
      have hbRw := hbR
      have hne : a ≠ g := by rintro rfl; have := HH.out.tag; rw [hgt'] at this; cases this
      have hlt9 := (List.getElem?_eq_some_iff.1 HI.out).1
      -- up to the stores only the struct's own block and the waiting pages were written
      have hbR3 : Blk w3 g 58 LR := by
        have hA : Step (fun t => t = (1, 0) ∨ t = (4, 0)) w ρ w3 ρ2 := HS3B.out w3 ρ2 hS3
        exact hA.blk' hbR hgt' (by simp)
      have htg3 := hS3'.tag hbR.lt hgt'
      have hb4 := hb3.setCell 3 (.slice A3 nn c3)
      have hbR4 := hbR3.setCell_ne (a := ⟨a, 3, none⟩) (.slice A3 nn c3) hne.symm
      have hO4 := hO3.set_ne (a := ⟨a, 3, none⟩) (.slice A3 nn c3) (by rw [ht3]; simp)
      have q3 := hb3.cell (i := 3) rfl
      have q3f := hb3.free 3
      have hbA4 : Blk (w3.setCell ⟨a, 3, none⟩ (.slice A3 nn c3)) a 55 [.bool true, vr, vp, .slice A3 nn c3, .int .i64 (s.held - wordsOf r.cls), .int .i64 (s.used - r.pgs.length)] := hb4
      have hS4 : Step CloseT w ρ (w3.setCell ⟨a, 3, none⟩ (.slice A3 nn c3)) ρ2 := hS3'.setCell ht3 (by simp [CloseT]) _
      have hcell : ∀ k, k < 5 → ∃ v, (w3.setCell ⟨a, 3, none⟩ (.slice A3 nn c3)).cell? ⟨g, i * 5 + k, none⟩ = some v := by
        intro k hk5
        rw [hbR4.at]
        exact ⟨_, List.getElem?_eq_getElem (by omega)⟩
      obtain ⟨v0, z0⟩ := hcell 0 (by omega)
      obtain ⟨v1', z1⟩ := hcell 1 (by omega)
      obtain ⟨v2', z2⟩ := hcell 2 (by omega)
      obtain ⟨v3', z3⟩ := hcell 3 (by omega)
      obtain ⟨v4', z4⟩ := hcell 4 (by omega)
      have f0 := hbR4.free (i * 5)
      have f1 := hbR4.free (i * 5 + 1)
      have f2 := hbR4.free (i * 5 + 2)
      have f3 := hbR4.free (i * 5 + 3)
      have f4 := hbR4.free (i * 5 + 4)
      rw [Nat.add_zero] at z0
      have HRF : Hd (LR.take (s.regs.length * 5) = css.flatten ∧ s.regs.length ≤ c ∧ c ≤ maxLen ∧ c * 5 ≤ LR.length) := ⟨hR4, hR1, hR2, hR3⟩
      have HB4 := Hd.mk hbA4
      have HR4 := Hd.mk hbR4
      have HO4 := Hd.mk hO4
      have HS4 := Hd.mk hS4
      have HVV := Hd.mk hvr
      clear hcell hb4 hbA4 hbR4 hO4 hS4 hR1 hR2 hR3 hR4 hbR hbRw hbR3 hO3 hS3 hS3' hb3 hv2 hvr
      go_wp2
      go_ret
      have hfin := close_core HH.out HI.out (vw2 := .slice A3 nn c3) (W := (((((w3.setCell ⟨a, 3, none⟩ (.slice A3 nn c3)).setCell ⟨g, i * 5, none⟩ (.bool false)).setCell ⟨g, i * 5 + 1, none⟩ (.slice none 0 0)).setCell ⟨g, i * 5 + 2, none⟩ (.slice none 0 0)).setCell ⟨g, i * 5 + 3, none⟩ (.int .i64 (-1))).setCell ⟨g, i * 5 + 4, none⟩ (.int .i64 0)) (ρ2 := ρ2) HVV.out HRF.out
        (((((HS4.out.setCell htg3 (by simp [CloseT]) _).setCell htg3 (by simp [CloseT]) _).setCell htg3 (by simp [CloseT]) _).setCell htg3 (by simp [CloseT]) _).setCell htg3 (by simp [CloseT]) _)
        (s.held - wordsOf r.cls) (s.used - r.pgs.length) (sortL (s.wait ++ r.pgs))
        (((((HB4.out.setCell_ne _ hne).setCell_ne _ hne).setCell_ne _ hne).setCell_ne _ hne).setCell_ne _ hne) ht3
        (((((HR4.out.setCell _ _).setCell _ _).setCell _ _).setCell _ _).setCell _ _) htg3
        (by
          rw [sortL_length, HNN.out]
          have nn2 : ρ2 g ≠ some (4, 0) := by rw [htg3]; simp
          exact ((((HO4.out.set_ne _ nn2).set_ne _ nn2).set_ne _ nn2).set_ne _ nn2).set_ne _ nn2)
      refine ⟨ρ2, by rfl, hfin, ?_⟩
      have hST : ∀ t, CloseT t → STag t := by rintro t (rfl | rfl | rfl) <;> simp [STag]
      exact (((((HS4.out.setCell htg3 (by simp [CloseT]) _).setCell htg3 (by simp [CloseT]) _).setCell htg3 (by simp [CloseT]) _).setCell htg3 (by simp [CloseT]) _).setCell htg3 (by simp [CloseT]) _).mono hST

end Go.Proofs.Ytgejmgomliadmaa
