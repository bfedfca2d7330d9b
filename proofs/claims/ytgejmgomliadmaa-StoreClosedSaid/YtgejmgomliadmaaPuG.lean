/- The store and the reference, side by side. -/
import Derived.Test.YtgejmgomliadmaaPuF
set_option linter.unusedVariables false
namespace Go.Proofs.Ytgejmgomliadmaa
open Go

structure RSim (t : RSt) (s : PSt) (C A : List Cel) : Prop where
  op : t.op = s.regs.map PReg.op
  curl : t.cur.length = t.op.length
  fill : t.fil.length = t.op.length
  cur : ∀ (i : Nat) (r : PReg), s.regs[i]? = some r → r.op = true → t.cur.getD i 0 = r.cur ∧ t.fil.getD i 0 = r.fil
  ownl : t.own.length = s.np
  ownw : ∀ p : Nat, p < s.np → (t.own.getD p 0 = -1 ↔ (p : Int) ∈ s.wait)
  ownp : ∀ p : Nat, p < s.np → ∀ (i : Nat) (r : PReg), s.regs[i]? = some r → (t.own.getD p 0 = i ↔ (p : Int) ∈ r.pgs)
  dat : t.dat = s.data
  beg : t.beg = A.map fun c => (c.at_ : Int)
  siz : t.siz = A.map fun c => (c.wd : Int)
  reg : t.reg = A.map fun c => (c.reg : Int)
  live : C = A.filter fun c => t.op.getD c.reg false
  inr : ∀ c ∈ A, c.reg < t.op.length
  wdb : ∀ c ∈ A, c.wd ≤ 4097
  room : RRoom t

theorem sim_new : RSim RSt.empty ⟨[], 0, [], [], 0, 0⟩ [] [] where
  op := rfl
  curl := rfl
  fill := rfl
  cur := by simp
  ownl := rfl
  ownw := by simp
  ownp := by simp
  dat := rfl
  beg := rfl
  siz := rfl
  reg := rfl
  live := rfl
  inr := by simp
  wdb := by simp
  room := ⟨by simp [RSt.empty], by simp [RSt.empty]⟩

theorem RSim.opl {t : RSt} {s : PSt} {C A : List Cel} (h : RSim t s C A) : t.op.length = s.regs.length := by rw [h.op]; simp
theorem RSim.op_get {t : RSt} {s : PSt} {C A : List Cel} (h : RSim t s C A) {i : Nat} {r : PReg} (hi : s.regs[i]? = some r) : t.op.getD i false = r.op := by
  rw [h.op, List.getD_eq_getElem?_getD, List.getElem?_map, hi]; rfl
theorem RSim.isOpen {t : RSt} {s : PSt} {C A : List Cel} (h : RSim t s C A) (n : Int) : rOpen t n = isOpenB s n := by
  unfold rOpen isOpenB
  rw [h.opl]
  by_cases h1 : 0 ≤ n
  · by_cases h2 : n < s.regs.length
    · have hi : s.regs[n.toNat]? = some (s.regs[n.toNat]'(by omega)) := List.getElem?_eq_getElem (by omega)
      rw [h.op_get hi, List.getD_eq_getElem?_getD, hi]; rfl
    · simp [h2]
  · simp [h1]
/-- Whose a page is. -/
theorem RSim.own_cases {N : Nat} {t : RSt} {s : PSt} {C A : List Cel} (h : RSim t s C A) (hg : SGood N s C) {p : Nat} (hp : p < s.np) : t.own.getD p 0 = -1 ∨ ∃ i : Nat, i < s.regs.length ∧ t.own.getD p 0 = i := by
  have hm := hg.perm.mem_iff (a := (p : Int))
  rw [mem_upTo, List.mem_append] at hm
  rcases hm.2 (by omega) with h1 | h1
  · exact .inl ((h.ownw p hp).2 h1)
  · obtain ⟨i, r, hi, hpr⟩ := mem_pagesOf.1 h1
    exact .inr ⟨i, (List.getElem?_eq_some_iff.1 hi).1, (h.ownp p hp i r hi).2 hpr⟩
theorem getD_app_left {α : Type} {l m : List α} {d : α} {k : Nat} (h : k < l.length) : (l ++ m).getD k d = l.getD k d := by
  rw [List.getD_eq_getElem?_getD, List.getElem?_append_left h, ← List.getD_eq_getElem?_getD]

theorem sim_open {N : Nat} {t : RSt} {s : PSt} {C A : List Cel} (h : RSim t s C A) (hg : SGood N s C) : RSim (rBegin t) { s with regs := s.regs ++ [PReg.new] } C A := by
  have hopl := h.opl
  have hget : ∀ (i : Nat) (r : PReg), (s.regs ++ [PReg.new])[i]? = some r → s.regs[i]? = some r ∨ (i = s.regs.length ∧ r = PReg.new) := by
    intro i r hi
    by_cases h1 : i < s.regs.length
    · rw [List.getElem?_append_left h1] at hi; exact .inl hi
    · rw [List.getElem?_append_right (by omega)] at hi
      have : i - s.regs.length = 0 := by
        rcases Nat.eq_zero_or_pos (i - s.regs.length) with h | h
        · exact h
        · rw [List.getElem?_eq_none (by simp; omega)] at hi; cases hi
      rw [this] at hi
      simp only [List.getElem?_cons_zero, Option.some.injEq] at hi
      exact .inr ⟨by omega, hi.symm⟩
  have hc := h.curl
  have hf := h.fill
  exact {
    op := by simp [rBegin, h.op, PReg.new]
    curl := by simp [rBegin, h.curl]
    fill := by simp [rBegin, h.fill]
    cur := by
      intro i r hi ho
      rcases hget i r hi with hi | ⟨rfl, rfl⟩
      · have hil := (List.getElem?_eq_some_iff.1 hi).1
        simp only [rBegin]
        rw [getD_app_left (by omega), getD_app_left (by omega)]
        exact h.cur i r hi ho
      · simp only [rBegin, PReg.new]
        rw [List.getD_eq_getElem?_getD, List.getElem?_append_right (by omega), List.getD_eq_getElem?_getD, List.getElem?_append_right (by omega), hc, hf, hopl, Nat.sub_self]
        exact ⟨rfl, rfl⟩
    ownl := h.ownl
    ownw := h.ownw
    ownp := by
      intro p hp i r hi
      rcases hget i r hi with hi | ⟨rfl, rfl⟩
      · exact h.ownp p hp i r hi
      · simp only [PReg.new, List.not_mem_nil, iff_false]
        intro he
        have he : t.own.getD p 0 = (s.regs.length : Int) := he
        rcases h.own_cases hg hp with h1 | ⟨j, h1, h2⟩ <;> omega
    dat := h.dat
    beg := h.beg
    siz := h.siz
    reg := h.reg
    live := by
      rw [h.live]
      refine List.filter_congr fun c hc => ?_
      simp only [rBegin]
      rw [getD_app_left (h.inr c hc)]
    inr := fun c hc => by have := h.inr c hc; simp [rBegin]; omega
    wdb := h.wdb
    room := ⟨fun x hx => by
        simp only [rBegin, List.mem_append, List.mem_singleton] at hx ⊢
        rcases hx with hx | rfl
        · exact h.room.cur x hx
        · omega, fun x hx => by
        simp only [rBegin, List.mem_append, List.mem_singleton] at hx
        rcases hx with hx | rfl
        · exact h.room.fil x hx
        · omega⟩ }

theorem sim_set {t : RSt} {s : PSt} {C A : List Cel} (h : RSim t s C A) (p : Nat) (v : Int) : RSim { t with dat := t.dat.set p v } { s with data := s.data.set p v } C A :=
  { h with dat := by show t.dat.set p v = _; rw [h.dat], room := ⟨h.room.cur, h.room.fil⟩ }

theorem sim_close {N : Nat} {t : RSt} {s : PSt} {C A : List Cel} (h : RSim t s C A) (hg : SGood N s C) {i : Nat} {r : PReg} (hi : s.regs[i]? = some r) : RSim (rClose t i) (closeS s i r) (C.filter (fun c => c.reg != i)) A := by
  have hil := (List.getElem?_eq_some_iff.1 hi).1
  have hopl := h.opl
  have hget : ∀ (j : Nat) (r' : PReg), (s.regs.set i PReg.none)[j]? = some r' → (j = i ∧ r' = PReg.none) ∨ (j ≠ i ∧ s.regs[j]? = some r') := by
    intro j r' hj
    rw [List.getElem?_set] at hj
    by_cases he : i = j
    · rw [if_pos he, if_pos hil] at hj
      exact .inl ⟨he.symm, by cases hj; rfl⟩
    · rw [if_neg he] at hj
      exact .inr ⟨fun h => he h.symm, hj⟩
  have hown : ∀ p : Nat, p < s.np → (t.own.map (closeF (i : Int))).getD p 0 = closeF i (t.own.getD p 0) := by
    intro p hp
    have hpl : p < t.own.length := by rw [h.ownl]; exact hp
    rw [List.getD_eq_getElem?_getD, List.getElem?_map, List.getD_eq_getElem?_getD, List.getElem?_eq_getElem hpl]; rfl
  have e : ((i : Nat) : Int).toNat = i := by omega
  exact {
    op := by
      simp only [rClose, closeS, e]
      rw [h.op, List.map_set]; rfl
    curl := by simp [rClose, h.curl]
    fill := by simp [rClose, h.fill]
    cur := by
      intro j r' hj ho
      rcases hget j r' hj with ⟨rfl, rfl⟩ | ⟨hne, hj⟩
      · cases ho
      · exact h.cur j r' hj ho
    ownl := by simp [rClose, h.ownl, closeS]
    ownw := by
      intro p hp
      have hp : p < s.np := hp
      show (t.own.map (closeF (i : Int))).getD p 0 = -1 ↔ (p : Int) ∈ sortL (s.wait ++ r.pgs)
      rw [hown p hp, (sortL_perm _).mem_iff, List.mem_append, ← h.ownw p hp, ← h.ownp p hp i r hi]
      unfold closeF
      split <;> omega
    ownp := by
      intro p hp j r' hj
      have hp : p < s.np := hp
      show (t.own.map (closeF (i : Int))).getD p 0 = j ↔ _
      rw [hown p hp]
      rcases hget j r' hj with ⟨rfl, rfl⟩ | ⟨hne, hj⟩
      · simp only [PReg.none, List.not_mem_nil, iff_false]
        unfold closeF
        split <;> omega
      · rw [← h.ownp p hp j r' hj]
        unfold closeF
        split <;> omega
    dat := h.dat
    beg := h.beg
    siz := h.siz
    reg := h.reg
    live := by
      rw [h.live, List.filter_filter]
      refine List.filter_congr fun c hc => ?_
      simp only [rClose, e]
      have hcl := h.inr c hc
      have e3 : (t.op.set i false).getD c.reg false = if i = c.reg then false else t.op.getD c.reg false := by
        rw [List.getD_eq_getElem?_getD, List.getElem?_set]
        by_cases he : i = c.reg
        · rw [if_pos he, if_pos he, if_pos (by omega)]; rfl
        · rw [if_neg he, if_neg he, ← List.getD_eq_getElem?_getD]
      rw [e3]
      by_cases he : i = c.reg
      · rw [if_pos he]; simp [he]
      · rw [if_neg he]
        have : (c.reg != i) = true := by simp; omega
        rw [this]; simp
    inr := fun c hc => by have := h.inr c hc; simp [rClose]; omega
    wdb := h.wdb
    room := ⟨fun x hx => by have := h.room.cur x hx; simpa [rClose] using this, fun x hx => h.room.fil x hx⟩ }

/-! ### pages are taken -/
theorem sim_first {N : Nat} {t : RSt} {s : PSt} {C A : List Cel} (h : RSim t s C A) (hg : SGood N s C) {i many : Nat} (hm : 1 ≤ many) : (takeS s i many).1 = rAt t.own many := by
  have hF : ∀ q : Nat, OwnFree t.own q ↔ (q : Int) ∈ s.wait := by
    intro q
    unfold OwnFree
    rw [h.ownl]
    constructor
    · rintro ⟨h1, h2⟩; exact (h.ownw q h1).1 h2
    · intro h1
      have := hg.wt_lt h1
      exact ⟨by omega, (h.ownw q (by omega)).2 h1⟩
  have hFF : ∀ p, FreeAt (OwnFree t.own) many p ↔ FreeAt (fun q => (q : Int) ∈ s.wait) many p := fun p => forall_congr' fun q => by
    constructor
    · intro h1 h2 h3; exact (hF q).1 (h1 h2 h3)
    · intro h1 h2 h3; exact (hF q).2 (h1 h2 h3)
  have hr : Rising s.wait := rising_iff.2 hg.rise
  cases hk : runK s.wait many with
  | none =>
    have e : (takeS s i many).1 = s.np := by simp only [takeS, hk]
    rw [e, ← h.ownl]
    rcases rAt_spec t.own hm with ⟨h1, _⟩ | ⟨h1, _⟩
    · exact absurd ((hFF _).1 h1) (runK_nofree hr hm hk _)
    · rw [h1]
  | some k =>
    have e : (takeS s i many).1 = s.wait.getD k 0 := by simp only [takeS, hk]
    obtain ⟨k1, _, _⟩ := runK_some (.inr hm) hk
    have hf0 : s.wait.getD k 0 ∈ s.wait := by
      rw [List.getD_eq_getElem?_getD, List.getElem?_eq_getElem (by omega)]
      exact List.getElem_mem _
    obtain ⟨f, hf⟩ := Int.eq_ofNat_of_zero_le (hg.wt_lt hf0).1
    obtain ⟨g1, g2⟩ := runK_free hr hm hk hf
    rw [e, hf]
    rcases rAt_spec t.own hm with ⟨h1, h2⟩ | ⟨_, h2⟩
    · have := free_unique g1 g2 ((hFF _).1 h1) (fun q hq hfr => h2 q hq ((hFF q).2 hfr))
      rw [this]
    · exact absurd ((hFF f).2 g1) (h2 f)

theorem sim_take {N : Nat} {t : RSt} {s : PSt} {C A : List Cel} (h : RSim t s C A) (hg : SGood N s C) {i : Nat} {r : PReg} (hi : s.regs[i]? = some r) (ho : r.op = true) {many : Nat} (hm : 1 ≤ many) (hm2 : many ≤ 257) :
    RSim (rTake t i many) (takeS s i many).2 C A := by
  obtain ⟨hg', first, hT⟩ := good_take hg hi ho hm hm2
  have hfr : rAt t.own many = first := by have := sim_first h hg (i := i) hm; rw [hT.fst] at this; omega
  have hle := rAt_le t.own many
  obtain ⟨ho1, ho2⟩ := rFill_own (dat := t.dat) hle (i : Int) many
  have hd := rFill_dat (dat := t.dat) hle (i : Int) many
  rw [hfr] at ho1 ho2 hd hle
  have hil := (List.getElem?_eq_some_iff.1 hi).1
  have hopl := h.opl
  have hown : (rTake t i many).own = (rFill t.own t.dat i first many).1 := by simp only [rTake, hfr]
  have hdat : (rTake t i many).dat = (rFill t.own t.dat i first many).2 := by simp only [rTake, hfr]
  have hnp : (takeS s i many).2.np = max s.np (first + many) ∧ (takeS s i many).2.data = s.data ++ List.replicate (16 * (max s.np (first + many) - s.np)) 0 ∧ (∀ p : Int, p ∈ (takeS s i many).2.wait ↔ p ∈ s.wait ∧ p ∉ upTo first many) := by
    cases hk : runK s.wait many with
    | none =>
      have hf : (takeS s i many).1 = s.np := by simp only [takeS, hk]
      rw [hT.fst] at hf
      have hf : first = s.np := by omega
      simp only [takeS, hk]
      refine ⟨by omega, by congr 2; omega, fun p => ?_⟩
      constructor
      · intro hp
        refine ⟨hp, fun hp2 => ?_⟩
        have := hg.wt_lt hp
        rw [mem_upTo] at hp2
        omega
      · exact fun hp => hp.1
    | some k =>
      have hf : (takeS s i many).1 = s.wait.getD k 0 := by simp only [takeS, hk]
      rw [hT.fst] at hf
      obtain ⟨k1, k2, k3⟩ := runK_some (.inr hm) hk
      have hseg := seg_upTo (rising_iff.2 hg.rise) hm k1 k2
      rw [← hf] at hseg
      have hn : (takeS s i many).2.np = s.np := by simp only [takeS, hk]
      have hfit := hT.fit
      have hwt : s.wait = s.wait.take k ++ (upTo first many ++ s.wait.drop (k + many)) := by
        rw [← hseg, ← List.drop_drop, List.take_append_drop, List.take_append_drop]
      have hnd : s.wait.Nodup := (List.nodup_append.1 hg.nodup).1
      refine ⟨by omega, ?_, fun p => ?_⟩
      · have : max s.np (first + many) - s.np = 0 := by omega
        rw [this]; simp [takeS, hk]
      · have hw : (takeS s i many).2.wait = s.wait.take k ++ s.wait.drop (k + many) := by simp only [takeS, hk]
        rw [hw]
        have h2 := hwt
        generalize s.wait.take k = X at *
        generalize s.wait.drop (k + many) = Y at *
        rw [h2] at hnd ⊢
        rw [List.nodup_append, List.nodup_append] at hnd
        obtain ⟨_, ⟨_, _, hn2⟩, hn3⟩ := hnd
        simp only [List.mem_append]
        constructor
        · rintro (hp | hp)
          · exact ⟨.inl hp, fun hp2 => hn3 p hp p (List.mem_append_left _ hp2) rfl⟩
          · exact ⟨.inr (.inr hp), fun hp2 => hn2 p hp2 p hp rfl⟩
        · rintro ⟨hp | hp | hp, hp2⟩
          · exact .inl hp
          · exact absurd hp hp2
          · exact .inr hp
  obtain ⟨hnp1, hnp2, hnp3⟩ := hnp
  have hget : ∀ (j : Nat) (r' : PReg), (takeS s i many).2.regs[j]? = some r' → (j = i ∧ r' = { r with pgs := r.pgs ++ upTo first many }) ∨ (j ≠ i ∧ s.regs[j]? = some r') := by
    intro j r' hj
    by_cases he : j = i
    · subst he
      rw [hT.reg] at hj
      exact .inl ⟨rfl, by cases hj; rfl⟩
    · rw [hT.other j he] at hj
      exact .inr ⟨he, hj⟩
  have hopm : (takeS s i many).2.regs.map PReg.op = s.regs.map PReg.op := by
    refine List.ext_getElem? fun j => ?_
    rw [List.getElem?_map, List.getElem?_map]
    by_cases he : j = i
    · subst he; rw [hT.reg, hi]; rfl
    · rw [hT.other j he]
  have hlen : ∀ p : Nat, ¬ (first ≤ p ∧ p < first + many) → p < max s.np (first + many) → p < s.np := fun p h1 h2 => by
    rw [h.ownl] at hle; omega
  exact {
    op := by rw [hopm]; exact h.op
    curl := h.curl
    fill := h.fill
    cur := by
      intro j r' hj ho'
      rcases hget j r' hj with ⟨rfl, rfl⟩ | ⟨hne, hj⟩
      · exact h.cur _ r hi ho
      · exact h.cur j r' hj ho'
    ownl := by rw [hown, ho1, hnp1, h.ownl]
    ownw := by
      intro p hp
      rw [hnp1] at hp
      rw [hown, ho2, hnp3]
      by_cases h5 : first ≤ p ∧ p < first + many
      · rw [if_pos h5]
        constructor
        · intro h6; omega
        · rintro ⟨_, h7⟩; exact absurd (mem_upTo.2 (by omega)) h7
      · rw [if_neg h5, h.ownw p (hlen p h5 hp)]
        constructor
        · intro h6; exact ⟨h6, fun h7 => h5 (by rw [mem_upTo] at h7; omega)⟩
        · exact fun h6 => h6.1
    ownp := by
      intro p hp j r' hj
      rw [hnp1] at hp
      rw [hown, ho2]
      rcases hget j r' hj with ⟨rfl, rfl⟩ | ⟨hne, hj⟩
      · rw [List.mem_append]
        by_cases h5 : first ≤ p ∧ p < first + many
        · rw [if_pos h5]
          constructor
          · intro _; exact .inr (mem_upTo.2 (by omega))
          · intro _; rfl
        · rw [if_neg h5, h.ownp p (hlen p h5 hp) _ r hi]
          constructor
          · exact .inl
          · rintro (h6 | h6)
            · exact h6
            · rw [mem_upTo] at h6; omega
      · by_cases h5 : first ≤ p ∧ p < first + many
        · rw [if_pos h5]
          constructor
          · intro h6; omega
          · intro h6
            exact absurd (mem_pagesOf.2 ⟨j, r', hj, h6⟩) (hT.new p (mem_upTo.2 (by omega)))
        · rw [if_neg h5]
          exact h.ownp p (hlen p h5 hp) j r' hj
    dat := by rw [hdat, hd, hnp2, h.dat, h.ownl]
    beg := h.beg
    siz := h.siz
    reg := h.reg
    live := h.live
    inr := h.inr
    wdb := h.wdb
    room := ⟨fun x hx => by have := h.room.cur x hx; rw [hown, ho1]; omega, h.room.fil⟩ }

end Go.Proofs.Ytgejmgomliadmaa
