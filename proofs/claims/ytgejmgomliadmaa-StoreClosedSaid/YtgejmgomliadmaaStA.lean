/- The store in memory: what its blocks hold; New, Open, find, Words, Pages, Free. -/
import Derived.Test.YtgejmgomliadmaaProg
import Derived.Test.YtgejmgomliadmaaHeap
set_option linter.unusedVariables false
namespace Go.Proofs.Ytgejmgomliadmaa
open Go Go.RowKit

structure PReg where
  op : Bool
  pgs : List Int
  cls : List (Int × Int)
  cur : Int
  fil : Int
structure PSt where
  regs : List PReg
  np : Nat
  data : List Int
  wait : List Int
  held : Int
  used : Int
def PReg.none : PReg := ⟨false, [], [], -1, 0⟩
def PReg.new : PReg := ⟨true, [], [], -1, 0⟩

def ints (l : List Int) : List Value := l.map fun x => .int .i64 x
def pairs (l : List (Int × Int)) : List Value := l.flatMap fun x => [.int .i64 x.1, .int .i64 x.2]
theorem ints_length (l : List Int) : (ints l).length = l.length := by simp [ints]
theorem pairs_length (l : List (Int × Int)) : (pairs l).length = l.length * 2 := by
  induction l with
  | nil => rfl
  | cons x l ih => simp [pairs] at ih ⊢; omega

def RegAt (w : World) (ρ : Ghost) (i : Nat) (r : PReg) (cs : List Value) : Prop :=
  ∃ vp vc, cs = [.bool r.op, vp, vc, .int .i64 r.cur, .int .i64 r.fil] ∧ OwnSl w ρ (5, i) 3 1 vp r.pgs.length (ints r.pgs) ∧ OwnSl w ρ (6, i) 63 2 vc r.cls.length (pairs r.cls)
theorem RegAt.len {w : World} {ρ : Ghost} {i : Nat} {r : PReg} {cs : List Value} (h : RegAt w ρ i r cs) : cs.length = 5 := by
  obtain ⟨vp, vc, rfl, _⟩ := h
  rfl

theorem RegAt.set_ne {w : World} {ρ : Ghost} {i : Nat} {r : PReg} {cs : List Value} (h : RegAt w ρ i r cs) {a : Addr} {t : Tag} {v : Value} (ht : ρ a.block = some t) (h5 : t ≠ (5, i)) (h6 : t ≠ (6, i)) : RegAt (w.setCell a v) ρ i r cs := by
  obtain ⟨vp, vc, rfl, h1, h2⟩ := h
  exact ⟨vp, vc, rfl, h1.set_ne _ (by rw [ht]; simpa using h5), h2.set_ne _ (by rw [ht]; simpa using h6)⟩

structure RepAt (w : World) (ρ : Ghost) (a : Nat) (s : PSt) (vr vp vw : Value) (css : List (List Value)) : Prop where
  blk : Blk w a 55 [.bool true, vr, vp, vw, .int .i64 s.held, .int .i64 s.used]
  tag : ρ a = some (1, 0)
  regs : OwnSl w ρ (2, 0) 58 5 vr s.regs.length css.flatten
  pages : OwnSl w ρ (3, 0) 75 16 vp s.np (ints s.data)
  wait : OwnSl w ρ (4, 0) 3 1 vw s.wait.length (ints s.wait)
  rows : css.length = s.regs.length
  row : ∀ i r cs, s.regs[i]? = some r → css[i]? = some cs → RegAt w ρ i r cs
def Rep (w : World) (ρ : Ghost) (a : Nat) (s : PSt) : Prop := ∃ vr vp vw css, RepAt w ρ a s vr vp vw css

/-- The tags of a store. -/
def STag (t : Tag) : Prop := 1 ≤ t.1 ∧ t.1 ≤ 6

theorem RegAt.step {T : Tag → Prop} {w w1 : World} {ρ ρ1 : Ghost} {i : Nat} {r : PReg} {cs : List Value} (h : RegAt w ρ i r cs) (hs : Step T w ρ w1 ρ1) (h5 : ¬ T (5, i)) (h6 : ¬ T (6, i)) : RegAt w1 ρ1 i r cs := by
  obtain ⟨vp, vc, rfl, h1, h2⟩ := h
  exact ⟨vp, vc, rfl, h1.step hs h5, h2.step hs h6⟩
theorem RepAt.step {T : Tag → Prop} {w w1 : World} {ρ ρ1 : Ghost} {a : Nat} {s : PSt} {vr vp vw : Value} {css : List (List Value)} (h : RepAt w ρ a s vr vp vw css) (hs : Step T w ρ w1 ρ1) (hT : ∀ t, STag t → ¬ T t) : RepAt w1 ρ1 a s vr vp vw css where
  blk := hs.blk' h.blk h.tag (hT _ (by simp [STag]))
  tag := hs.tag h.blk.lt h.tag
  regs := h.regs.step hs (hT _ (by simp [STag]))
  pages := h.pages.step hs (hT _ (by simp [STag]))
  wait := h.wait.step hs (hT _ (by simp [STag]))
  rows := h.rows
  row := fun i r cs h1 h2 => (h.row i r cs h1 h2).step hs (hT _ (by simp [STag])) (hT _ (by simp [STag]))
theorem Rep.step {T : Tag → Prop} {w w1 : World} {ρ ρ1 : Ghost} {a : Nat} {s : PSt} (h : Rep w ρ a s) (hs : Step T w ρ w1 ρ1) (hT : ∀ t, STag t → ¬ T t) : Rep w1 ρ1 a s := by
  obtain ⟨vr, vp, vw, css, h⟩ := h
  exact ⟨vr, vp, vw, css, h.step hs hT⟩

/-! ### rows of rows -/
theorem flatten_len {n : Nat} : ∀ (css : List (List Value)), (∀ cs ∈ css, cs.length = n) → css.flatten.length = css.length * n
  | [], _ => by simp
  | c :: css, h => by
    have := flatten_len css (fun cs hc => h cs (List.mem_cons_of_mem _ hc))
    simp only [List.flatten_cons, List.length_append, List.length_cons, this, h c (List.mem_cons_self ..), Nat.succ_mul]
    omega
theorem flatten_get {n : Nat} : ∀ (css : List (List Value)), (∀ cs ∈ css, cs.length = n) → ∀ (i k : Nat) (cs : List Value), css[i]? = some cs → k < n → css.flatten[i * n + k]? = cs[k]?
  | [], _, i, k, cs, hi, _ => by simp at hi
  | c :: css, h, i, k, cs, hi, hk => by
    have hc := h c (List.mem_cons_self ..)
    rw [List.flatten_cons]
    cases i with
    | zero =>
      simp at hi
      subst hi
      rw [Nat.zero_mul, Nat.zero_add, List.getElem?_append_left (by omega)]
    | succ i =>
      rw [List.getElem?_append_right (by rw [hc, Nat.succ_mul]; omega), hc]
      have : (i + 1) * n + k - n = i * n + k := by rw [Nat.succ_mul]; omega
      rw [this]
      exact flatten_get css (fun cs hc => h cs (List.mem_cons_of_mem _ hc)) i k cs (by simpa using hi) hk
theorem flatten_set {n : Nat} : ∀ (css : List (List Value)), (∀ cs ∈ css, cs.length = n) → ∀ (i k : Nat) (cs : List Value) (v : Value), css[i]? = some cs → k < n → css.flatten.set (i * n + k) v = (css.set i (cs.set k v)).flatten
  | [], _, i, k, cs, v, hi, _ => by simp at hi
  | c :: css, h, i, k, cs, v, hi, hk => by
    have hc := h c (List.mem_cons_self ..)
    rw [List.flatten_cons]
    cases i with
    | zero =>
      simp at hi
      subst hi
      rw [Nat.zero_mul, Nat.zero_add, List.set_append_left _ _ (by omega)]
      simp
    | succ i =>
      rw [List.set_append_right _ _ (by rw [hc, Nat.succ_mul]; omega), hc]
      have : (i + 1) * n + k - n = i * n + k := by rw [Nat.succ_mul]; omega
      rw [this, flatten_set css (fun cs hc => h cs (List.mem_cons_of_mem _ hc)) i k cs v (by simpa using hi) hk]
      simp

theorem RepAt.five {w : World} {ρ : Ghost} {a : Nat} {s : PSt} {vr vp vw : Value} {css : List (List Value)} (h : RepAt w ρ a s vr vp vw css) : ∀ cs ∈ css, cs.length = 5 := by
  intro cs hc
  obtain ⟨i, hi, rfl⟩ := List.getElem_of_mem hc
  have hi' : i < s.regs.length := by rw [← h.rows]; exact hi
  exact (h.row i s.regs[i] css[i] (by simp [hi']) (by simp [hi])).len
/-- A region's own cells. -/
theorem RepAt.reg {w : World} {ρ : Ghost} {a : Nat} {s : PSt} {vr vp vw : Value} {css : List (List Value)} (h : RepAt w ρ a s vr vp vw css) {i : Nat} {r : PReg} (hi : s.regs[i]? = some r) :
    ∃ g c vrp vrc, vr = .slice (some ⟨g, 0, none⟩) s.regs.length c ∧ s.regs.length ≤ c ∧ c ≤ maxLen ∧ ρ g = some (2, 0) ∧ g < w.heap.size ∧ css[i]? = some [.bool r.op, vrp, vrc, .int .i64 r.cur, .int .i64 r.fil] ∧
      OwnSl w ρ (5, i) 3 1 vrp r.pgs.length (ints r.pgs) ∧ OwnSl w ρ (6, i) 63 2 vrc r.cls.length (pairs r.cls) ∧
      w.cell? ⟨g, i * 5, none⟩ = some (.bool r.op) ∧ w.cell? ⟨g, i * 5 + 1, none⟩ = some vrp ∧ w.cell? ⟨g, i * 5 + 2, none⟩ = some vrc ∧ w.cell? ⟨g, i * 5 + 3, none⟩ = some (.int .i64 r.cur) ∧ w.cell? ⟨g, i * 5 + 4, none⟩ = some (.int .i64 r.fil) ∧
      (∀ k, w.frozen? ⟨g, k, none⟩ = false) := by
  have hlt : i < s.regs.length := (List.getElem?_eq_some_iff.1 hi).1
  obtain ⟨g, c, rfl, hg, h1, h2, hc, hf, hgl⟩ := h.regs.some (by omega)
  have hlt' : i < css.length := by rw [h.rows]; exact hlt
  obtain ⟨vrp, vrc, he, hp, hcl⟩ := h.row i r css[i] hi (by simp [hlt'])
  have hcs : css[i]? = some [.bool r.op, vrp, vrc, .int .i64 r.cur, .int .i64 r.fil] := by rw [List.getElem?_eq_getElem hlt', he]
  have hf5 := h.five
  have get : ∀ k, k < 5 → w.cell? ⟨g, i * 5 + k, none⟩ = [Value.bool r.op, vrp, vrc, .int .i64 r.cur, .int .i64 r.fil][k]? := by
    intro k hk
    rw [hc _ (by omega), flatten_get css hf5 i k _ hcs hk]
  exact ⟨g, c, vrp, vrc, rfl, h1, h2, hg, hgl, hcs, hp, hcl, by simpa using get 0 (by omega), by simpa using get 1 (by omega), by simpa using get 2 (by omega), by simpa using get 3 (by omega), by simpa using get 4 (by omega), hf⟩

/-! ### Walks -/
def isOpenB (s : PSt) (n : Int) : Bool := decide (0 ≤ n) && decide (n < s.regs.length) && (s.regs.getD n.toNat PReg.none).op

theorem info58 : (Try.prog.info? 58).map (fun i => (i.zero, i.size, i.bytes)) = some (some (.agg #[.bool false, .slice none 0 0, .slice none 0 0, .int .i64 0, .int .i64 0]), 5, 72) := by kernel_rfl

theorem New_any (w : World) (ρ : Ghost) : Calls Try.prog 9 #[] w fun e w' => ∃ ρ', e = .returned (.pointer (some ⟨w.heap.size, 0, none⟩)) ∧ Rep w' ρ' w.heap.size ⟨[], 0, [], [], 0, 0⟩ ∧ Step STag w ρ w' ρ' := by
  go_enter Try.func9, Try.ntmps9
  go_wp2
  go_ret
  refine ⟨ρ.put w.heap.size (1, 0), rfl, ⟨.slice none 0 0, .slice none 0 0, .slice none 0 0, [], ?_⟩, (Step.refl _ w ρ).alloc_tag _ _⟩
  exact ⟨Blk.new' _ _ _, Ghost.put_same _ _ _, OwnSl.nil .., OwnSl.nil .., OwnSl.nil .., rfl, fun i r cs h => by simp at h⟩

theorem find_open (w : World) (ρ : Ghost) (a : Nat) (s : PSt) (vr vp vw : Value) (css : List (List Value)) (H : RepAt w ρ a s vr vp vw css) (i : Nat) (r : PReg) (hi : s.regs[i]? = some r) (ho : r.op = true) (g c : Nat) (hv : vr = .slice (some ⟨g, 0, none⟩) s.regs.length c) :
    Calls Try.prog 31 #[.pointer (some ⟨a, 0, none⟩), .int .i64 i] w fun e w' => e = .returned (.pointer (some ⟨g, i * 5, none⟩)) ∧ w = w' := by
  have hlt : i < s.regs.length := (List.getElem?_eq_some_iff.1 hi).1
  obtain ⟨g', c', vrp, vrc, hv', hl, hm, _, _, _, _, _, q0, _⟩ := H.reg hi
  rw [hv] at hv'
  cases hv'
  have h0 := H.blk.cell (i := 0) rfl
  have h1 := H.blk.cell (i := 1) rfl
  unfold maxLen at hm
  rw [hv] at h1
  rw [ho] at q0
  generalize s.regs.length = n at *
  clear H hv hi
  go_enter Try.func31, Try.ntmps31
  go_wp2
  go_ret
  exact ⟨rfl, rfl⟩

theorem find_none (w : World) (ρ : Ghost) (a : Nat) (s : PSt) (H : Rep w ρ a s) (n : Int) (ho : isOpenB s n = false) :
    Calls Try.prog 31 #[.pointer (some ⟨a, 0, none⟩), .int .i64 n] w fun e w' => e = .returned (.pointer none) ∧ w = w' := by
  obtain ⟨vr, vp, vw, css, H⟩ := H
  have h0 := H.blk.cell (i := 0) rfl
  have h1 := H.blk.cell (i := 1) rfl
  obtain ⟨A, c, hv, hl, hm⟩ := H.regs.form
  unfold maxLen at hm
  rw [hv] at h1
  by_cases hn : 0 ≤ n
  · by_cases hn' : n < s.regs.length
    · obtain ⟨i, rfl⟩ := Int.eq_ofNat_of_zero_le hn
      have hlt : i < s.regs.length := by omega
      have hi : s.regs[i]? = some s.regs[i] := List.getElem?_eq_getElem hlt
      have hf : (s.regs[i]).op = false := by
        have h' := ho
        simp [isOpenB, hlt, List.getD_eq_getElem?_getD] at h'
        exact h'
      obtain ⟨g', c', vrp, vrc, hv', _, _, _, _, _, _, _, q0, _⟩ := H.reg hi
      rw [hv] at hv'
      cases hv'
      rw [hf] at q0
      clear H hv hi hf ho
      go_enter Try.func31, Try.ntmps31
      go_wp2
      go_ret
      exact ⟨rfl, rfl⟩
    · have hge : (s.regs.length : Int) ≤ n := by omega
      generalize s.regs.length = m at *
      clear H hv ho
      go_enter Try.func31, Try.ntmps31
      go_wp2
      go_ret
      exact ⟨rfl, rfl⟩
  · have hlt : n < 0 := by omega
    generalize s.regs.length = m at *
    clear H hv ho
    go_enter Try.func31, Try.ntmps31
    go_wp2
    go_ret
    exact ⟨rfl, rfl⟩

theorem Open_any (w : World) (ρ : Ghost) (a : Nat) (s : PSt) (H : Rep w ρ a s) (hb : s.regs.length ≤ 1000000) :
    Calls Try.prog 11 #[.pointer (some ⟨a, 0, none⟩)] w fun e w' => ∃ ρ', e = .returned (.int .i64 s.regs.length) ∧ Rep w' ρ' a { s with regs := s.regs ++ [PReg.new] } ∧ Step STag w ρ w' ρ' := by
  obtain ⟨vr, vp, vw, css, H⟩ := H
  have h0 := H.blk.cell (i := 0) rfl
  have h1 := H.blk.cell (i := 1) rfl
  obtain ⟨A, c, rfl, hl, hm⟩ := H.regs.form
  unfold maxLen at hm
  have hal := H.blk.lt
  go_enter Try.func11, Try.ntmps11
  go_wp2_with (at_builtin; refine wpList_append_box rfl _ _ _ rfl 58 _ 5 72 Try.underlying52 info58 rfl (by decide) ρ (2, 0) (.slice A s.regs.length c) s.regs.length css.flatten [.bool true, .slice none 0 0, .slice none 0 0, .int .i64 (-1), .int .i64 0] rfl H.regs 1 rfl rfl ?c1 ?c2 ?c3 ?c4)
  case c1 => simp [Value.oneCell']
  case c2 => unfold maxLen; omega
  case c3 => omega
  case c4 =>
    intro v1 w1 ρ1 hO hS
    obtain ⟨g1, c1, rfl, hg1, l1, m1, hc1, hf1, hl1⟩ := hO.some (by omega)
    have hb1 := hS.blk' H.blk H.tag (by simp)
    have ht1 := hS.tag H.blk.lt H.tag
    have k0 := hb1.cell (i := 1) rfl
    have k1 := hb1.free 1
    have hsz := hS.size
    go_wp2
    go_ret
    have hne : a ≠ g1 := by rintro rfl; rw [hg1] at ht1; cases ht1
    have hstep : ∀ t : Tag, t ≠ (2, 0) → ¬ (t = (2, 0)) := fun t h => h
    refine ⟨ρ1, by simp, ⟨_, vp, vw, css ++ [[.bool true, .slice none 0 0, .slice none 0 0, .int .i64 (-1), .int .i64 0]], hb1.setCell 1 _, ht1, ?_, ?_, ?_, ?_, ?_⟩, ?_⟩
    · have := hO.set_ne (a := ⟨a, 1, none⟩) (.slice (some ⟨g1, 0, none⟩) (s.regs.length + 1) c1) (by rw [ht1]; simp)
      simpa using this
    · exact (H.pages.step hS (by simp)).set_ne _ (by rw [ht1]; simp)
    · exact (H.wait.step hS (by simp)).set_ne _ (by rw [ht1]; simp)
    · simp [H.rows]
    · intro i r cs h1 h2
      by_cases hi : i < s.regs.length
      · rw [List.getElem?_append_left hi] at h1
        rw [List.getElem?_append_left (by rw [H.rows]; exact hi)] at h2
        exact ((H.row i r cs h1 h2).step hS (by simp) (by simp)).set_ne ht1 (by simp) (by simp)
      · rw [List.getElem?_append_right (by omega)] at h1
        rw [List.getElem?_append_right (by rw [H.rows]; omega)] at h2
        have h1l := (List.getElem?_eq_some_iff.1 h1).1
        have hi' : i = s.regs.length := by simp at h1l; omega
        subst hi'
        simp [H.rows] at h1 h2
        subst h1; subst h2
        exact ⟨_, _, rfl, OwnSl.nil .., OwnSl.nil ..⟩
    · exact (hS.mono (by rintro t rfl; simp [STag])).setCell ht1 (by simp [STag]) _

end Go.Proofs.Ytgejmgomliadmaa
