/- The store as plain data: what holds of it behind each call. -/
import Derived.Test.YtgejmgomliadmaaRfE
set_option linter.unusedVariables false
namespace Go.Proofs.Ytgejmgomliadmaa
open Go

theorem mem_upTo {a x : Int} {d : Nat} : x ∈ upTo a d ↔ a ≤ x ∧ x < a + d := by
  simp only [upTo, List.mem_map, List.mem_range]
  constructor
  · rintro ⟨j, hj, rfl⟩; omega
  · intro h; exact ⟨(x - a).toNat, by omega, by omega⟩
theorem upTo_add (a : Int) (m n : Nat) : upTo a (m + n) = upTo a m ++ upTo (a + m) n := by
  induction n with
  | zero => simp [upTo]
  | succ n ih => rw [Nat.add_succ, upTo_succ, ih, upTo_succ, List.append_assoc]; congr 3; push_cast; omega
theorem nodup_upTo (a : Int) (d : Nat) : (upTo a d).Nodup := by
  unfold upTo List.Nodup
  rw [List.pairwise_map]
  refine List.Pairwise.imp ?_ (List.nodup_range (n := d))
  intro x y h; omega
theorem upTo_getD (a : Int) (d k : Nat) (h : k < d) : (upTo a d)[k]? = some (a + k) := by simp [upTo, h]

theorem rising_iff {l : List Int} : Rising l ↔ l.Pairwise (· < ·) := by
  rw [List.pairwise_iff_getElem]
  constructor
  · intro h i j hi hj hij
    have := h i j hij hj
    simpa [List.getD_eq_getElem?_getD, List.getElem?_eq_getElem hi, List.getElem?_eq_getElem hj] using this
  · intro h i j hij hj
    have hi : i < l.length := by omega
    have := h i j hi hj hij
    simpa [List.getD_eq_getElem?_getD, List.getElem?_eq_getElem hi, List.getElem?_eq_getElem hj] using this

/-- A list parted at one of its places. -/
theorem part_at {α : Type} {l : List α} {i : Nat} {x : α} (h : l[i]? = some x) : ∃ a b, l = a ++ x :: b ∧ a.length = i := by
  refine ⟨l.take i, l.drop (i + 1), ?_, ?_⟩
  · obtain ⟨hi, rfl⟩ := List.getElem?_eq_some_iff.1 h
    rw [List.getElem_cons_drop]; simp
  · obtain ⟨hi, _⟩ := List.getElem?_eq_some_iff.1 h
    simp; omega
theorem modify_part {α : Type} (a b : List α) (x : α) (f : α → α) : (a ++ x :: b).modify a.length f = a ++ f x :: b := by
  induction a with
  | nil => simp
  | cons y a ih => simp [ih]
theorem set_part {α : Type} (a b : List α) (x y : α) : (a ++ x :: b).set a.length y = a ++ y :: b := by simp

/-- A live cell: its region, its first word, its words. -/
structure Cel where
  reg : Nat
  at_ : Nat
  wd : Nat
deriving DecidableEq
def Cel.has (c : Cel) (t : Nat) : Prop := c.at_ ≤ t ∧ t < c.at_ + c.wd
def Cel.apart (c d : Cel) : Prop := c.at_ + c.wd ≤ d.at_ ∨ d.at_ + d.wd ≤ c.at_
def Cel.pair (c : Cel) : Int × Int := (c.at_, c.wd)
theorem Cel.apart_of {c d : Cel} (hc : 1 ≤ c.wd) (hd : 1 ≤ d.wd) (h : ∀ t, c.has t → ¬ d.has t) : c.apart d := by
  unfold Cel.apart
  by_cases h1 : c.at_ + c.wd ≤ d.at_ ∨ d.at_ + d.wd ≤ c.at_
  · exact h1
  · exfalso
    exact h (max c.at_ d.at_) ⟨by omega, by omega⟩ ⟨by omega, by omega⟩
theorem Cel.off {c : Cel} {q f : Nat} (hc : 1 ≤ c.wd) (hf : f ≤ 16) (h : ∀ t, c.has t → t / 16 ≠ q) : c.at_ + c.wd ≤ 16 * q + f ∨ 16 * q + 16 ≤ c.at_ := by
  by_cases h1 : c.at_ + c.wd ≤ 16 * q + f ∨ 16 * q + 16 ≤ c.at_
  · exact h1
  · exfalso
    exact h (max c.at_ (16 * q)) ⟨by omega, by omega⟩ (by omega)

def pagesOf (s : PSt) : List Int := s.regs.flatMap PReg.pgs
/-- The current page of region i, and what of it no cell has. -/
def CurOk (C : List Cel) (i : Nat) (r : PReg) : Prop :=
  (r.cur = -1 ∧ r.fil = 0) ∨ ∃ q f : Nat, r.cur = q ∧ r.fil = f ∧ (q : Int) ∈ r.pgs ∧ 1 ≤ f ∧ f ≤ 16 ∧ ∀ c ∈ C, c.reg = i → c.at_ + c.wd ≤ 16 * q + f ∨ 16 * q + 16 ≤ c.at_
def sumWd (C : List Cel) : Nat := (C.map Cel.wd).sum
structure SGood (N : Nat) (s : PSt) (C : List Cel) : Prop where
  nreg : s.regs.length ≤ N
  ncel : C.length ≤ N
  nnp : s.np ≤ 257 * N
  data : s.data.length = s.np * 16
  perm : (s.wait ++ pagesOf s).Perm (upTo 0 s.np)
  rise : s.wait.Pairwise (· < ·)
  used : s.used = (pagesOf s).length
  held : s.held = sumWd C
  shut : ∀ r ∈ s.regs, r.op = false → r = PReg.none
  cls : ∀ (i : Nat) (r : PReg), s.regs[i]? = some r → r.cls.Perm ((C.filter (fun c => c.reg == i)).map Cel.pair)
  up : ∀ r ∈ s.regs, (r.cls.map (·.1)).Pairwise (· < ·)
  cel : ∀ c ∈ C, ∃ r : PReg, s.regs[c.reg]? = some r ∧ r.op = true ∧ 1 ≤ c.wd ∧ c.wd ≤ 4097 ∧ ∀ t, c.has t → ((t / 16 : Nat) : Int) ∈ r.pgs
  apart : C.Pairwise Cel.apart
  cur : ∀ (i : Nat) (r : PReg), s.regs[i]? = some r → CurOk C i r

theorem SGood.mono {N M : Nat} {s : PSt} {C : List Cel} (h : SGood N s C) (hN : N ≤ M) : SGood M s C := { h with nreg := Nat.le_trans h.nreg hN, ncel := Nat.le_trans h.ncel hN, nnp := by have := h.nnp; omega }
theorem good_new : SGood 0 ⟨[], 0, [], [], 0, 0⟩ [] where
  nreg := by simp
  ncel := by simp
  nnp := by simp
  data := rfl
  perm := by simp [pagesOf, upTo]
  rise := by simp
  used := rfl
  held := rfl
  shut := by simp
  cls := by simp
  up := by simp
  cel := by simp
  apart := by simp
  cur := by simp

theorem SGood.nodup {N : Nat} {s : PSt} {C : List Cel} (h : SGood N s C) : (s.wait ++ pagesOf s).Nodup := h.perm.nodup_iff.2 (nodup_upTo _ _)
theorem mem_pagesOf {s : PSt} {p : Int} : p ∈ pagesOf s ↔ ∃ (i : Nat) (r : PReg), s.regs[i]? = some r ∧ p ∈ r.pgs := by
  simp only [pagesOf, List.mem_flatMap]
  constructor
  · rintro ⟨r, hr, hp⟩
    obtain ⟨i, hi⟩ := List.mem_iff_getElem?.1 hr
    exact ⟨i, r, hi, hp⟩
  · rintro ⟨i, r, hi, hp⟩
    exact ⟨r, List.mem_of_getElem? hi, hp⟩
theorem SGood.pg_lt {N : Nat} {s : PSt} {C : List Cel} (h : SGood N s C) {i : Nat} {r : PReg} (hi : s.regs[i]? = some r) {p : Int} (hp : p ∈ r.pgs) : 0 ≤ p ∧ p < s.np := by
  have := h.perm.mem_iff.1 (List.mem_append_right s.wait (mem_pagesOf.2 ⟨i, r, hi, hp⟩))
  rw [mem_upTo] at this; omega
theorem SGood.wt_lt {N : Nat} {s : PSt} {C : List Cel} (h : SGood N s C) {p : Int} (hp : p ∈ s.wait) : 0 ≤ p ∧ p < s.np := by
  have := h.perm.mem_iff.1 (List.mem_append_left (pagesOf s) hp)
  rw [mem_upTo] at this; omega
theorem SGood.pg_wt {N : Nat} {s : PSt} {C : List Cel} (h : SGood N s C) {i : Nat} {r : PReg} (hi : s.regs[i]? = some r) {p : Int} (hp : p ∈ r.pgs) : p ∉ s.wait := fun hw =>
  (List.nodup_append.1 h.nodup).2.2 p hw p (mem_pagesOf.2 ⟨i, r, hi, hp⟩) rfl
theorem SGood.pg_one {N : Nat} {s : PSt} {C : List Cel} (h : SGood N s C) {i j : Nat} {r r' : PReg} (hi : s.regs[i]? = some r) (hj : s.regs[j]? = some r') {p : Int} (hp : p ∈ r.pgs) (hp' : p ∈ r'.pgs) : i = j := by
  have hn := (List.nodup_append.1 h.nodup).2.1
  unfold pagesOf List.Nodup at hn
  rw [List.pairwise_flatMap] at hn
  have hn2 := List.pairwise_iff_getElem.1 hn.2
  obtain ⟨hi1, rfl⟩ := List.getElem?_eq_some_iff.1 hi
  obtain ⟨hj1, rfl⟩ := List.getElem?_eq_some_iff.1 hj
  rcases Nat.lt_trichotomy i j with hlt | rfl | hgt
  · exact absurd rfl (hn2 i j hi1 hj1 hlt p hp p hp')
  · rfl
  · exact absurd rfl (hn2 j i hj1 hi1 hgt p hp' p hp)
theorem SGood.len {N : Nat} {s : PSt} {C : List Cel} (h : SGood N s C) : s.wait.length + (pagesOf s).length = s.np := by
  have := h.perm.length_eq
  rw [upTo_length, List.length_append] at this
  exact this

end Go.Proofs.Ytgejmgomliadmaa
