/- The store in memory: Alloc. -/
import Derived.Test.YtgejmgomliadmaaStG
set_option linter.unusedVariables false
namespace Go.Proofs.Ytgejmgomliadmaa
open Go Go.RowKit

def placeOf (l : List Int) (x : Int) : Nat := (l.takeWhile (· < x)).length
theorem placeOf_eq {l : List Int} {x : Int} {k : Nat} (h : Place l x k) : placeOf l x = k := by
  obtain ⟨h1, h2, h3⟩ := h
  unfold placeOf
  induction l generalizing k with
  | nil => simp at h1; simp [h1]
  | cons y l ih =>
    cases k with
    | zero =>
      have := h3 0 (Nat.le_refl _) (by simp)
      simp at this
      rw [List.takeWhile_cons_of_neg (by simp; omega)]
      rfl
    | succ k =>
      have h := h2 0 (by omega)
      simp at h
      rw [List.takeWhile_cons_of_pos (by simpa using h), List.length_cons, ih (k := k) (by simpa using h1) (fun j hj => by simpa using h2 (j + 1) (by omega)) (fun j hj hl => by simpa using h3 (j + 1) (by omega) (by simpa using hl))]
def insCls (cls : List (Int × Int)) (c : Int × Int) : List (Int × Int) := cls.take (placeOf (ats cls) c.1) ++ [c] ++ cls.drop (placeOf (ats cls) c.1)

def setCur (regs : List PReg) (i : Nat) (cur fil : Int) : List PReg := regs.modify i fun r => { r with cur := cur, fil := fil }
def setFil (regs : List PReg) (i : Nat) (fil : Int) : List PReg := regs.modify i fun r => { r with fil := fil }
def finS (s : PSt) (i : Nat) (at_ words : Nat) : PSt := { s with data := zeroAt s.data at_ words, regs := s.regs.modify i (fun r => { r with cls := insCls r.cls ((at_ : Int), (words : Int)) }), held := s.held + words }

/-- What the tail of Alloc asks of the store. -/
structure TailOk (s : PSt) (i at_ words : Nat) (r : PReg) : Prop where
  reg : s.regs[i]? = some r
  fits : at_ + words ≤ s.np * 16
  np : s.np ≤ 300000
  rise : Rising (ats r.cls)
  inb : ∀ c ∈ r.cls, InB c.1
  ncls : r.cls.length ≤ 1000
  held : 0 ≤ s.held ∧ s.held ≤ 10000000
  words : words ≤ 5000

/-- The store behind the tail, out of its pieces. -/
theorem tail_core {w W : World} {ρ ρ3 : Ghost} {a g c i : Nat} {s : PSt} {r : PReg} {vr vp vw vrp vrc vq : Value} {css : List (List Value)} {LR : List Value}
    (H : RepAt w ρ a s vr vp vw css) (hi : s.regs[i]? = some r) (hv : vr = .slice (some ⟨g, 0, none⟩) s.regs.length c)
    (hLR : LR.take (s.regs.length * 5) = css.flatten ∧ s.regs.length ≤ c ∧ c ≤ maxLen ∧ c * 5 ≤ LR.length)
    (hcs : css[i]? = some [.bool r.op, vrp, vrc, .int .i64 r.cur, .int .i64 r.fil]) (hrp : OwnSl w ρ (5, i) 3 1 vrp r.pgs.length (ints r.pgs))
    (T : Tag → Prop) (hS : Step T w ρ W ρ3) (hT : ∀ t, T t → t = (3, 0) ∨ t = (6, i)) (data : List Int) (held : Int) (cls : List (Int × Int))
    (hbA : Blk W a 55 [.bool true, vr, vp, vw, .int .i64 s.held, .int .i64 s.used]) (hta : ρ3 a = some (1, 0)) (hbR : Blk W g 58 LR) (htg : ρ3 g = some (2, 0))
    (hpg : OwnSl W ρ3 (3, 0) 75 16 vp s.np (ints data)) (hcl : OwnSl W ρ3 (6, i) 63 2 vq cls.length (pairs cls)) :
    RepV ((W.setCell ⟨g, i * 5 + 2, none⟩ vq).setCell ⟨a, 4, none⟩ (.int .i64 held)) ρ3 a { s with data := data, regs := s.regs.set i { r with cls := cls }, held := held } vr := by
  have hlt : i < s.regs.length := (List.getElem?_eq_some_iff.1 hi).1
  have h5 := H.five
  have hne : g ≠ a := by rintro rfl; rw [hta] at htg; cases htg
  have kk : ∀ {t : Tag} {e : TypeId} {sz : Nat} {v : Value} {n : Nat} {xs : List Value}, OwnSl W ρ3 t e sz v n xs → t ≠ (2, 0) → t ≠ (1, 0) → OwnSl ((W.setCell ⟨g, i * 5 + 2, none⟩ vq).setCell ⟨a, 4, none⟩ (.int .i64 held)) ρ3 t e sz v n xs := by
    intro t e sz v n xs h h2 h1
    exact (h.set_ne _ (by rw [htg]; simpa using h2.symm)).set_ne _ (by rw [hta]; simpa using h1.symm)
  have nT : ∀ t : Tag, t ≠ (3, 0) → t ≠ (6, i) → ¬ T t := fun t h3 h6 h => by rcases hT t h with h | h <;> contradiction
  refine ⟨vp, vw, css.set i [.bool r.op, vrp, vq, .int .i64 r.cur, .int .i64 r.fil], (hbA.setCell_ne vq (by exact hne.symm)).setCell 4 _, hta, ?_, kk hpg (by simp) (by simp), kk (H.wait.step hS (nT _ (by simp) (by simp))) (by simp) (by simp), by simp [H.rows], ?_⟩
  · rw [hv]
    simp only [List.length_set]
    have hb2 := (hbR.setCell (i * 5 + 2) vq).setCell_ne (a := ⟨a, 4, none⟩) (.int .i64 held) hne
    refine OwnSl.mk htg hb2 hLR.2.1 hLR.2.2.1 (by simpa using hLR.2.2.2) ?_
    rw [List.take_set, hLR.1, flatten_set css h5 i 2 _ _ hcs (by omega)]
    rfl
  · intro j r' cs h1 h2
    simp only [List.getElem?_set] at h1
    rw [List.getElem?_set] at h2
    by_cases hij : i = j
    · subst hij
      rw [if_pos rfl, if_pos hlt] at h1
      rw [if_pos rfl, if_pos (by rw [H.rows]; exact hlt)] at h2
      simp at h1 h2
      subst h1; subst h2
      exact ⟨vrp, vq, rfl, kk (hrp.step hS (nT _ (by simp) (by simp))) (by simp) (by simp), kk hcl (by simp) (by simp)⟩
    · rw [if_neg hij] at h1 h2
      obtain ⟨wp, wc, rfl, k1, k2⟩ := H.row j r' cs h1 h2
      exact ⟨wp, wc, rfl, kk (k1.step hS (nT _ (by simp) (by simp))) (by simp) (by simp), kk (k2.step hS (nT _ (by simp) (by simp; omega))) (by simp) (by simp)⟩

theorem pairs_take (l : List (Int × Int)) (k : Nat) : (pairs l).take (k * 2) = pairs (l.take k) := by
  induction l generalizing k with
  | nil => simp [pairs]
  | cons x l ih =>
    cases k with
    | zero => simp [pairs]
    | succ k =>
      have e : (k + 1) * 2 = k * 2 + 1 + 1 := by omega
      have hp : pairs (x :: l) = .int .i64 x.1 :: .int .i64 x.2 :: pairs l := by simp [pairs]
      rw [hp, e, List.take_succ_cons, List.take_succ_cons, ih]
      simp [pairs]
theorem pairs_drop (l : List (Int × Int)) (k : Nat) : (pairs l).drop (k * 2) = pairs (l.drop k) := by
  induction l generalizing k with
  | nil => simp [pairs]
  | cons x l ih =>
    cases k with
    | zero => simp [pairs]
    | succ k =>
      have e : (k + 1) * 2 = k * 2 + 1 + 1 := by omega
      have hp : pairs (x :: l) = .int .i64 x.1 :: .int .i64 x.2 :: pairs l := by simp [pairs]
      rw [hp, e, List.drop_succ_cons, List.drop_succ_cons, ih]
      simp
theorem pairs_append (l m : List (Int × Int)) : pairs (l ++ m) = pairs l ++ pairs m := by simp [pairs]
theorem ins_pairs {cls : List (Int × Int)} {x y : Int} {k : Nat} (h : placeOf (ats cls) x = k) (hk : k ≤ cls.length) :
    cls.length + 1 = (insCls cls (x, y)).length ∧ (pairs cls).take (k * 2) ++ [Value.int .i64 x, .int .i64 y] ++ (pairs cls).drop (k * 2) = pairs (insCls cls (x, y)) := by
  subst h
  constructor
  · simp [insCls]; omega
  · rw [pairs_take, pairs_drop, insCls, pairs_append, pairs_append]
    rfl

def AllocPost (ρ : Ghost) (a : Nat) (s : PSt) (x : Int) (w : World) (e : Ending) (w' : World) : Prop := ∃ ρ', e = .returned (.tuple #[.int .i64 x, .int .i64 0]) ∧ Rep w' ρ' a s ∧ Step STag w ρ w' ρ'

theorem alloc_closed (w : World) (ρ : Ghost) (a : Nat) (s : PSt) (H : Rep w ρ a s) (n words : Int) (ho : isOpenB s n = false) :
    Calls Try.prog 15 #[.pointer (some ⟨a, 0, none⟩), .int .i64 n, .int .i64 words] w fun e w' => e = .returned (.tuple #[.int .i64 0, .int .i64 70]) ∧ w = w' := by
  go_enter Try.func15, Try.ntmps15
  go_wp2_with fail
  refine (find_none w ρ a s H n ho).mono ?_
  rintro e w' ⟨rfl, rfl⟩
  go_wp2
  go_ret2
  exact ⟨rfl, rfl⟩

theorem isOpenB_some {s : PSt} {n : Int} (h : isOpenB s n = true) : ∃ (i : Nat) (r : PReg), n = i ∧ s.regs[i]? = some r ∧ r.op = true := by
  simp only [isOpenB, Bool.and_eq_true, decide_eq_true_eq] at h
  obtain ⟨⟨h1, h2⟩, h3⟩ := h
  obtain ⟨i, rfl⟩ := Int.eq_ofNat_of_zero_le h1
  have hlt : i < s.regs.length := by omega
  refine ⟨i, s.regs[i], rfl, List.getElem?_eq_getElem hlt, ?_⟩
  simpa [List.getD_eq_getElem?_getD, hlt] using h3

theorem alloc_size (w : World) (ρ : Ghost) (a : Nat) (s : PSt) (H : Rep w ρ a s) (n words : Int) (ho : isOpenB s n = true) (hw : words < 1 ∨ 4097 < words) :
    Calls Try.prog 15 #[.pointer (some ⟨a, 0, none⟩), .int .i64 n, .int .i64 words] w fun e w' => e = .returned (.tuple #[.int .i64 0, .int .i64 73]) ∧ w = w' := by
  obtain ⟨i, r, rfl, hi, hr⟩ := isOpenB_some ho
  obtain ⟨vr, vp, vw, css, H⟩ := H
  obtain ⟨g, c, _, _, hv, _⟩ := H.reg hi
  have HF := Hd.mk (find_open w ρ a s vr vp vw css H i r hi hr g c hv)
  clear H hv ho hi hr
  rcases hw with hw | hw
  · go_enter Try.func15, Try.ntmps15
    go_wp2_with fail
    refine HF.out.mono ?_
    rintro e w' ⟨rfl, rfl⟩
    go_wp2
    go_ret2
    exact ⟨rfl, rfl⟩
  · go_enter Try.func15, Try.ntmps15
    go_wp2_with fail
    refine HF.out.mono ?_
    rintro e w' ⟨rfl, rfl⟩
    go_wp2
    go_ret2
    exact ⟨rfl, rfl⟩

end Go.Proofs.Ytgejmgomliadmaa
