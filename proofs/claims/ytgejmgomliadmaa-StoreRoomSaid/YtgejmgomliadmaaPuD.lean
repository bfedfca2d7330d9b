/- The store: Alloc under the invariant. -/
import Derived.Test.YtgejmgomliadmaaPuC
set_option linter.unusedVariables false
namespace Go.Proofs.Ytgejmgomliadmaa
open Go

def allocP (s : PSt) (i wd : Nat) (r : PReg) : Nat × PSt :=
  if 16 < wd then (((takeS s i ((wd + 15) / 16)).1 * 16).toNat, finS (takeS s i ((wd + 15) / 16)).2 i ((takeS s i ((wd + 15) / 16)).1 * 16).toNat wd)
  else if 0 ≤ r.cur ∧ r.fil + wd ≤ 16 then ((r.cur * 16 + r.fil).toNat, finS { s with regs := setFil s.regs i (r.fil + wd) } i (r.cur * 16 + r.fil).toNat wd)
  else (((takeS s i 1).1 * 16).toNat, finS { (takeS s i 1).2 with regs := setCur (takeS s i 1).2.regs i (takeS s i 1).1 wd } i ((takeS s i 1).1 * 16).toNat wd)

theorem setCur_self {regs : List PReg} {i : Nat} {r : PReg} (hi : regs[i]? = some r) : setCur regs i r.cur r.fil = regs := by
  obtain ⟨a, b, rfl, rfl⟩ := part_at hi
  unfold setCur
  rw [modify_part]
theorem setFil_eq {regs : List PReg} {i : Nat} {r : PReg} (hi : regs[i]? = some r) (f : Int) : setFil regs i f = setCur regs i r.cur f := by
  obtain ⟨a, b, rfl, rfl⟩ := part_at hi
  unfold setCur setFil
  rw [modify_part, modify_part]

theorem SGood.wait_len {N : Nat} {s : PSt} {C : List Cel} (h : SGood N s C) : s.wait.length ≤ s.np := by have := h.len; omega
theorem SGood.pgs_len {N : Nat} {s : PSt} {C : List Cel} (h : SGood N s C) {r : PReg} (hr : r ∈ s.regs) : r.pgs.length ≤ s.np := by
  have h1 := h.len
  obtain ⟨i, hi⟩ := List.mem_iff_getElem?.1 hr
  obtain ⟨a, b, hab, rfl⟩ := part_at hi
  have : (pagesOf s).length = (a.flatMap PReg.pgs).length + (r.pgs.length + (b.flatMap PReg.pgs).length) := by simp [pagesOf, hab]
  omega
theorem SGood.cls_len {N : Nat} {s : PSt} {C : List Cel} (h : SGood N s C) {r : PReg} (hr : r ∈ s.regs) : r.cls.length ≤ N := by
  obtain ⟨i, hi⟩ := List.mem_iff_getElem?.1 hr
  have h1 := (h.cls i r hi).length_eq
  have h2 := List.length_filter_le (fun c : Cel => c.reg == i) C
  have := h.ncel
  rw [List.length_map] at h1
  omega
theorem sumWd_le {C : List Cel} (h : ∀ c ∈ C, c.wd ≤ 4097) : sumWd C ≤ 4097 * C.length := by
  unfold sumWd
  induction C with
  | nil => simp
  | cons c C ih =>
    have h1 := h c (by simp)
    have h2 := ih (fun d hd => h d (by simp [hd]))
    simp only [List.map_cons, List.sum_cons, List.length_cons]
    omega
theorem SGood.held_le {N : Nat} {s : PSt} {C : List Cel} (h : SGood N s C) : 0 ≤ s.held ∧ s.held ≤ 4097 * N := by
  have h1 := sumWd_le (fun c hc => by obtain ⟨_, _, _, _, h, _⟩ := h.cel c hc; exact h)
  have h2 := h.ncel
  rw [h.held]
  have : 4097 * C.length ≤ 4097 * N := Nat.mul_le_mul_left _ h2
  omega
/-- A cell of a region's list is a live one. -/
theorem SGood.of_cls {N : Nat} {s : PSt} {C : List Cel} (h : SGood N s C) {i : Nat} {r : PReg} (hi : s.regs[i]? = some r) {d : Int × Int} (hd : d ∈ r.cls) : ∃ c ∈ C, c.reg = i ∧ d = c.pair := by
  obtain ⟨c, hc, rfl⟩ := List.mem_map.1 ((h.cls i r hi).mem_iff.1 hd)
  obtain ⟨h1, h2⟩ := List.mem_filter.1 hc
  exact ⟨c, h1, by simpa using h2, rfl⟩
theorem SGood.to_cls {N : Nat} {s : PSt} {C : List Cel} (h : SGood N s C) {c : Cel} (hc : c ∈ C) {r : PReg} (hi : s.regs[c.reg]? = some r) : c.pair ∈ r.cls :=
  (h.cls c.reg r hi).mem_iff.2 (List.mem_map.2 ⟨c, List.mem_filter.2 ⟨hc, by simp⟩, rfl⟩)
theorem SGood.cel_fit {N : Nat} {s : PSt} {C : List Cel} (h : SGood N s C) {c : Cel} (hc : c ∈ C) : c.at_ + c.wd ≤ s.np * 16 := by
  obtain ⟨r, hr, _, h1, _, h2⟩ := h.cel c hc
  have h3 := (h.pg_lt hr (h2 (c.at_ + c.wd - 1) ⟨by omega, by omega⟩)).2
  omega
theorem SGood.fine {N : Nat} {s : PSt} {C : List Cel} (h : SGood N s C) (hN : N ≤ 200) : Fine s where
  nregs := by have := h.nreg; omega
  np := by have := h.nnp; omega
  wait := fun x hx => by have := h.wt_lt hx; have := h.nnp; omega
  rise := rising_iff.2 h.rise
  nwait := by have := h.wait_len; have := h.nnp; omega
  pgs := fun r hr => by have := h.pgs_len hr; have := h.nnp; omega
  cls := fun r hr => by have := h.cls_len hr; omega
  used := by have := h.used; have := h.len; have := h.nnp; omega
  held := by have := h.held_le; omega
theorem SGood.clsOk {N : Nat} {s : PSt} {C : List Cel} (h : SGood N s C) (hN : N ≤ 200) {i : Nat} {r : PReg} (hi : s.regs[i]? = some r) : ClsOk r where
  rise := rising_iff.2 (h.up r (List.mem_of_getElem? hi))
  ncls := by have := h.cls_len (List.mem_of_getElem? hi); omega
  inb := fun d hd => by
    obtain ⟨c, hc, _, rfl⟩ := h.of_cls hi hd
    have h1 := h.cel_fit hc
    have h2 := h.nnp
    unfold InB Cel.pair
    dsimp only
    omega

theorem tail_ok {N : Nat} {s : PSt} {C : List Cel} (h : SGood N s C) (hN : N ≤ 200) {i : Nat} {r : PReg} (hi : s.regs[i]? = some r) (cu fi : Int) {at_ wd : Nat} (hf : at_ + wd ≤ s.np * 16) (hw2 : wd ≤ 4097) :
    TailOk { s with regs := setCur s.regs i cu fi } i at_ wd { r with cur := cu, fil := fi } where
  reg := by
    obtain ⟨a, b, hab, rfl⟩ := part_at hi
    dsimp only
    unfold setCur
    rw [hab, modify_part]; simp
  fits := hf
  np := by have := h.nnp; show s.np ≤ _; omega
  rise := (h.clsOk hN hi).rise
  inb := (h.clsOk hN hi).inb
  ncls := (h.clsOk hN hi).ncls
  held := by have := h.held_le; show 0 ≤ s.held ∧ s.held ≤ _; omega
  words := by omega

theorem div_in {first many wd t : Nat} (hwd : wd ≤ many * 16) (h : first * 16 ≤ t ∧ t < first * 16 + wd) : ((t / 16 : Nat) : Int) ∈ upTo first many := by
  rw [mem_upTo]; omega

theorem good_new_pages {N : Nat} {s : PSt} {C : List Cel} (h : SGood N s C) {i : Nat} {r : PReg} (hi : s.regs[i]? = some r) (ho : r.op = true) {many first : Nat} (hm : 1 ≤ many) (hT : Took s i many first r) (hg : SGood (N + 1) (takeS s i many).2 C) {wd : Nat} (hw : 1 ≤ wd) (hw2 : wd ≤ many * 16) :
    (∀ t, (Cel.mk i (first * 16) wd).has t → ((t / 16 : Nat) : Int) ∈ r.pgs ++ upTo first many) ∧ (∀ d ∈ C, d.apart ⟨i, first * 16, wd⟩) ∧ first * 16 + wd ≤ (takeS s i many).2.np * 16 ∧ (∀ d ∈ C, ∀ p : Nat, (p : Int) ∈ upTo first many → ∀ t, d.has t → t / 16 ≠ p) := by
  have hno : ∀ d ∈ C, ∀ p : Nat, (p : Int) ∈ upTo first many → ∀ t, d.has t → t / 16 ≠ p := by
    intro d hd p hp t ht he
    obtain ⟨r', hr', _, _, _, h5⟩ := h.cel d hd
    have h6 := h5 t ht
    rw [he] at h6
    exact hT.new p hp (mem_pagesOf.2 ⟨_, _, hr', h6⟩)
  refine ⟨fun t ht => List.mem_append_right _ (div_in hw2 ht), fun d hd => ?_, ?_, hno⟩
  · obtain ⟨_, _, _, h3, _, _⟩ := h.cel d hd
    refine Cel.apart_of h3 hw (fun t ht ht2 => ?_)
    exact hno d hd (t / 16) (div_in hw2 ht2) t ht rfl
  · have := hT.fit; omega

theorem curOk_large {N : Nat} {s : PSt} {C : List Cel} (h : SGood N s C) {i : Nat} {r : PReg} (hi : s.regs[i]? = some r) {many first : Nat} (hT : Took s i many first r) {wd : Nat} (hw : 1 ≤ wd) (hw2 : wd ≤ many * 16) :
    CurOk (C ++ [⟨i, first * 16, wd⟩]) i { r with pgs := r.pgs ++ upTo first many } := by
  rcases h.cur i r hi with h1 | ⟨q, f, h1, h2, h3, h4, h5, h6⟩
  · exact .inl h1
  · refine .inr ⟨q, f, h1, h2, List.mem_append_left _ h3, h4, h5, fun c hc he => ?_⟩
    rw [List.mem_append, List.mem_singleton] at hc
    rcases hc with hc | rfl
    · exact h6 c hc he
    · refine Cel.off hw h5 (fun t ht hq => ?_)
      have h7 := div_in hw2 ht
      rw [hq] at h7
      exact hT.new _ h7 (mem_pagesOf.2 ⟨i, r, hi, h3⟩)
theorem curOk_new {N first : Nat} {s : PSt} {C : List Cel} (h : SGood N s C) {i : Nat} {r : PReg} (hno : ∀ d ∈ C, ∀ p : Nat, (p : Int) ∈ upTo first 1 → ∀ t, d.has t → t / 16 ≠ p) {wd : Nat} (hw : 1 ≤ wd) (hw2 : wd ≤ 16) :
    CurOk (C ++ [⟨i, first * 16, wd⟩]) i { r with pgs := r.pgs ++ upTo (first : Nat) 1, cur := (first : Nat), fil := (wd : Nat) } := by
  refine .inr ⟨first, wd, rfl, rfl, List.mem_append_right _ (by rw [mem_upTo]; omega), hw, hw2, fun c hc he => ?_⟩
  rw [List.mem_append, List.mem_singleton] at hc
  rcases hc with hc | rfl
  · obtain ⟨_, _, _, h3, _, _⟩ := h.cel c hc
    exact Cel.off h3 hw2 (fun t ht => hno c hc first (by rw [mem_upTo]; omega) t ht)
  · dsimp only; omega
theorem room_in {N : Nat} {s : PSt} {C : List Cel} (h : SGood N s C) {i : Nat} {r : PReg} (hi : s.regs[i]? = some r) {q f wd : Nat} (h3 : (q : Int) ∈ r.pgs) (h5 : f + wd ≤ 16) (hw : 1 ≤ wd)
    (h6 : ∀ c ∈ C, c.reg = i → c.at_ + c.wd ≤ 16 * q + f ∨ 16 * q + 16 ≤ c.at_) :
    (∀ t, (Cel.mk i (q * 16 + f) wd).has t → ((t / 16 : Nat) : Int) ∈ r.pgs) ∧ (∀ d ∈ C, d.apart ⟨i, q * 16 + f, wd⟩) ∧ q * 16 + f + wd ≤ s.np * 16 ∧ CurOk (C ++ [⟨i, q * 16 + f, wd⟩]) i { r with cur := (q : Nat), fil := (f : Int) + wd } := by
  have hq : ∀ t, (Cel.mk i (q * 16 + f) wd).has t → t / 16 = q := by
    rintro t ⟨h7, h8⟩; dsimp only at h7 h8; omega
  refine ⟨fun t ht => by rw [hq t ht]; exact h3, fun d hd => ?_, ?_, ?_⟩
  · obtain ⟨r', hr', _, h7, _, h8⟩ := h.cel d hd
    by_cases hd2 : d.reg = i
    · have := h6 d hd hd2
      unfold Cel.apart; dsimp only; omega
    · refine Cel.apart_of h7 hw (fun t ht ht2 => ?_)
      have h9 := h8 t ht
      rw [hq t ht2] at h9
      exact hd2 (h.pg_one hr' hi h9 h3)
  · have := (h.pg_lt hi h3).2; omega
  · refine .inr ⟨q, f + wd, rfl, by push_cast; rfl, h3, by omega, h5, fun c hc he => ?_⟩
    rw [List.mem_append, List.mem_singleton] at hc
    rcases hc with hc | rfl
    · have := h6 c hc he; omega
    · dsimp only; omega

/-- Alloc, in plain data and in the program. -/
theorem alloc_good {N : Nat} {s : PSt} {C : List Cel} (h : SGood N s C) (hN : N + 1 ≤ 200) {i : Nat} {r : PReg} (hi : s.regs[i]? = some r) (ho : r.op = true) {wd : Nat} (hw1 : 1 ≤ wd) (hw2 : wd ≤ 4097) :
    SGood (N + 1) (allocP s i wd r).2 (C ++ [⟨i, (allocP s i wd r).1, wd⟩]) ∧ ∀ (w : World) (ρ : Ghost) (a : Nat), Rep w ρ a s → Fresh w ρ →
      Calls Try.prog 15 #[.pointer (some ⟨a, 0, none⟩), .int .i64 i, .int .i64 wd] w (AllocPost ρ a (allocP s i wd r).2 ((allocP s i wd r).1 : Nat) w) := by
  have hcel : C.length + 1 ≤ N + 1 := by have := h.ncel; omega
  by_cases hl : 16 < wd
  · obtain ⟨hg, first, hT⟩ := good_take h hi ho (many := (wd + 15) / 16) (by omega) (by omega)
    obtain ⟨h1, h2, h3, _⟩ := good_new_pages h hi ho (by omega) hT hg hw1 (by omega)
    have hc := curOk_large h hi hT hw1 (by omega)
    have e : ((takeS s i ((wd + 15) / 16)).1 * 16).toNat = first * 16 := by rw [hT.fst]; omega
    unfold allocP
    rw [if_pos hl, e]
    have hself := setCur_self hT.reg
    refine ⟨?_, fun w ρ a H hfr => ?_⟩
    · have := good_fin hg hT.reg ho r.cur r.fil (first * 16) wd hw1 hw2 h1 h2 hc hcel
      rw [hself] at this
      exact this
    · have ht := tail_ok hg hN hT.reg r.cur r.fil h3 hw2
      rw [hself] at ht
      exact alloc_large w ρ a s H (h.fine (by omega)) hfr i r _ hi ho wd ((wd + 15) / 16) rfl (by omega) hw2 (first * 16) (by rw [hT.fst]; push_cast; rfl) (by rw [hT.fst]; have := hT.fit; have := hg.nnp; omega) ht hT.len
  · by_cases hrm : 0 ≤ r.cur ∧ r.fil + wd ≤ 16
    · rcases h.cur i r hi with ⟨h1, _⟩ | ⟨q, f, h1, h2, h3, h4, h5, h6⟩
      · omega
      · have h5' : f + wd ≤ 16 := by omega
        obtain ⟨k1, k2, k3, k4⟩ := room_in h hi h3 h5' hw1 h6
        have e : (r.cur * 16 + r.fil).toNat = q * 16 + f := by omega
        unfold allocP
        rw [if_neg hl, if_pos hrm, e]
        have hm := h.mono (Nat.le_succ N)
        refine ⟨?_, fun w ρ a H hfr => ?_⟩
        · have := good_fin hm hi ho q ((f : Int) + wd) (q * 16 + f) wd hw1 hw2 k1 k2 k4 hcel
          rw [setFil_eq hi, h2, h1]
          exact this
        · have ht := tail_ok hm hN hi q ((f : Int) + wd) k3 hw2
          rw [h2]
          have e2 : setCur s.regs i q ((f : Int) + wd) = setFil s.regs i ((f : Int) + wd) := by rw [setFil_eq hi, h1]
          have e3 : ({ r with cur := (q : Int), fil := (f : Int) + wd } : PReg) = { r with fil := (f : Int) + wd } := by rw [← h1]
          rw [e2, e3] at ht
          exact alloc_room w ρ a s H hfr i r hi ho wd q f h1 h2 hw1 h5' (by have := (h.pg_lt hi h3).2; have := h.nnp; omega) h5 (q * 16 + f) rfl ht
    · obtain ⟨hg, first, hT⟩ := good_take h hi ho (many := 1) (by omega) (by omega)
      obtain ⟨h1, h2, h3, h4⟩ := good_new_pages h hi ho (by omega) hT hg hw1 (by omega)
      have hc := curOk_new (i := i) (r := r) h h4 hw1 (by omega)
      have e : ((takeS s i 1).1 * 16).toNat = first * 16 := by rw [hT.fst]; omega
      unfold allocP
      rw [if_neg hl, if_neg hrm, e]
      refine ⟨?_, fun w ρ a H hfr => ?_⟩
      · have := good_fin hg hT.reg ho first wd (first * 16) wd hw1 hw2 h1 h2 hc hcel
        rw [hT.fst]
        exact this
      · have ht := tail_ok hg hN hT.reg (takeS s i 1).1 wd h3 hw2
        have hb : 0 ≤ (takeS s i 1).1 ∧ (takeS s i 1).1 ≤ 1000000 := by rw [hT.fst]; have := hT.fit; have := hg.nnp; omega
        have he : ((first * 16 : Nat) : Int) = (takeS s i 1).1 * 16 := by rw [hT.fst]; push_cast; rfl
        rcases h.cur i r hi with ⟨q1, q2⟩ | ⟨q, f, q1, q2, q3, q4, q5, q6⟩
        · exact alloc_new1 w ρ a s H (h.fine (by omega)) hfr i r _ hi ho wd hw1 (by omega) (by omega) (first * 16) he hb hT.reg ht hT.len
        · exact alloc_new2 w ρ a s H (h.fine (by omega)) hfr i r _ hi ho wd hw1 (by omega) q f q1 q2 (by omega) q5 (first * 16) he hb hT.reg ht hT.len

end Go.Proofs.Ytgejmgomliadmaa
