/- The store and the reference: every call. -/
import Derived.Test.YtgejmgomliadmaaPuG
set_option linter.unusedVariables false
namespace Go.Proofs.Ytgejmgomliadmaa
open Go Go.RowKit

theorem RSim.fine {N : Nat} {t : RSt} {s : PSt} {C A : List Cel} (h : RSim t s C A) (hg : SGood N s C) (hN : N ≤ 200) (hA : A.length ≤ N) : RFine t where
  beg := by rw [h.beg]; simp; omega
  reg := by rw [h.reg, h.beg]; simp
  siz := by rw [h.siz, h.beg]; simp
  cur := h.curl
  fil := h.fill
  op := by rw [h.opl]; have := hg.nreg; omega
  own := by rw [h.ownl]; have := hg.nnp; omega
  dat := by rw [h.dat, h.ownl]; exact hg.data
  sizb := by
    intro x hx
    rw [h.siz] at hx
    obtain ⟨c, hc, rfl⟩ := List.mem_map.1 hx
    have := h.wdb c hc
    omega
  regb := by
    intro x hx
    rw [h.reg] at hx
    obtain ⟨c, hc, rfl⟩ := List.mem_map.1 hx
    have := h.inr c hc
    omega

theorem getD_set_ne {α : Type} {l : List α} {i j : Nat} {v d : α} (h : i ≠ j) : (l.set i v).getD j d = l.getD j d := by
  rw [List.getD_eq_getElem?_getD, List.getElem?_set, if_neg h, ← List.getD_eq_getElem?_getD]
theorem sim_cur {t : RSt} {s : PSt} {C A : List Cel} (h : RSim t s C A) {i : Nat} {r : PReg} (hi : s.regs[i]? = some r) (cu fi : Int) (hc : cu < t.own.length) (hf : 0 ≤ fi ∧ fi ≤ 16) :
    RSim { t with cur := t.cur.set i cu, fil := t.fil.set i fi } { s with regs := setCur s.regs i cu fi } C A := by
  have hil := (List.getElem?_eq_some_iff.1 hi).1
  have hopl := h.opl
  have hcl := h.curl
  have hfl := h.fill
  have hR : setCur s.regs i cu fi = s.regs.set i { r with cur := cu, fil := fi } := by unfold setCur; exact modify_set hi _
  have hget : ∀ (j : Nat) (r' : PReg), (s.regs.set i { r with cur := cu, fil := fi })[j]? = some r' → (j = i ∧ r' = { r with cur := cu, fil := fi }) ∨ (j ≠ i ∧ s.regs[j]? = some r') := by
    intro j r' hj
    rw [List.getElem?_set] at hj
    by_cases he : i = j
    · rw [if_pos he, if_pos hil] at hj
      exact .inl ⟨he.symm, by cases hj; rfl⟩
    · rw [if_neg he] at hj
      exact .inr ⟨fun h => he h.symm, hj⟩
  rw [hR]
  exact {
    op := by
      show t.op = _
      rw [h.op]
      dsimp only
      rw [List.map_set]
      refine List.ext_getElem? fun j => ?_
      rw [List.getElem?_set, List.getElem?_map]
      by_cases he : i = j
      · subst he; rw [if_pos rfl, hi]; simp [hil]
      · rw [if_neg he]
    curl := by simp [h.curl]
    fill := by simp [h.fill]
    cur := by
      intro j r' hj ho
      rcases hget j r' hj with ⟨rfl, rfl⟩ | ⟨hne, hj⟩
      · dsimp only
        rw [List.getD_eq_getElem?_getD, List.getElem?_set, if_pos rfl, if_pos (by omega), List.getD_eq_getElem?_getD, List.getElem?_set, if_pos rfl, if_pos (by omega)]
        exact ⟨rfl, rfl⟩
      · dsimp only
        rw [getD_set_ne (fun h => hne h.symm), getD_set_ne (fun h => hne h.symm)]
        exact h.cur j r' hj ho
    ownl := h.ownl
    ownw := h.ownw
    ownp := by
      intro p hp j r' hj
      rcases hget j r' hj with ⟨rfl, rfl⟩ | ⟨hne, hj⟩
      · exact h.ownp p hp _ r hi
      · exact h.ownp p hp j r' hj
    dat := h.dat
    beg := h.beg
    siz := h.siz
    reg := h.reg
    live := h.live
    inr := h.inr
    wdb := h.wdb
    room := ⟨fun x hx => by
      rcases List.mem_or_eq_of_mem_set hx with hx | rfl
      · exact h.room.cur x hx
      · exact hc, fun x hx => by
      rcases List.mem_or_eq_of_mem_set hx with hx | rfl
      · exact h.room.fil x hx
      · exact hf⟩ }

theorem sim_fin {t : RSt} {s : PSt} {C A : List Cel} (h : RSim t s C A) {i : Nat} {r : PReg} (hi : s.regs[i]? = some r) (ho : r.op = true) (at_ wd : Nat) (hw : wd ≤ 4097) : RSim (rFin t at_ wd i) (finS s i at_ wd) (C ++ [⟨i, at_, wd⟩]) (A ++ [⟨i, at_, wd⟩]) := by
  have hil := (List.getElem?_eq_some_iff.1 hi).1
  have hopl := h.opl
  have hR : (finS s i at_ wd).regs = s.regs.set i { r with cls := insCls r.cls ((at_ : Int), (wd : Int)) } := modify_set hi _
  have hget : ∀ (j : Nat) (r' : PReg), (finS s i at_ wd).regs[j]? = some r' → (j = i ∧ r' = { r with cls := insCls r.cls ((at_ : Int), (wd : Int)) }) ∨ (j ≠ i ∧ s.regs[j]? = some r') := by
    intro j r' hj
    rw [hR, List.getElem?_set] at hj
    by_cases he : i = j
    · rw [if_pos he, if_pos hil] at hj
      exact .inl ⟨he.symm, by cases hj; rfl⟩
    · rw [if_neg he] at hj
      exact .inr ⟨fun h => he h.symm, hj⟩
  exact {
    op := by
      show t.op = _
      rw [h.op, hR, List.map_set]
      refine List.ext_getElem? fun j => ?_
      rw [List.getElem?_set, List.getElem?_map]
      by_cases he : i = j
      · subst he; rw [if_pos rfl, hi]; simp [hil]
      · rw [if_neg he]
    curl := h.curl
    fill := h.fill
    cur := by
      intro j r' hj ho
      rcases hget j r' hj with ⟨rfl, rfl⟩ | ⟨hne, hj⟩
      · exact h.cur _ r hi ho
      · exact h.cur j r' hj ho
    ownl := h.ownl
    ownw := h.ownw
    ownp := by
      intro p hp j r' hj
      rcases hget j r' hj with ⟨rfl, rfl⟩ | ⟨hne, hj⟩
      · exact h.ownp p hp _ r hi
      · exact h.ownp p hp j r' hj
    dat := by simp only [rFin, finS, h.dat]
    beg := by simp [rFin, h.beg]
    siz := by simp [rFin, h.siz]
    reg := by simp [rFin, h.reg]
    live := by
      have h1 := h.op_get hi
      rw [ho] at h1
      have h2 : (rFin t at_ wd i).op = t.op := rfl
      have h3 : [Cel.mk i at_ wd].filter (fun c => t.op.getD c.reg false) = [Cel.mk i at_ wd] := by
        rw [List.filter_cons, if_pos h1]; rfl
      rw [h2, List.filter_append, ← h.live, h3]
    inr := fun c hc => by
      rw [List.mem_append, List.mem_singleton] at hc
      rcases hc with hc | rfl
      · exact h.inr c hc
      · show i < t.op.length; omega
    wdb := fun c hc => by
      rw [List.mem_append, List.mem_singleton] at hc
      rcases hc with hc | rfl
      · exact h.wdb c hc
      · exact hw
    room := ⟨h.room.cur, h.room.fil⟩ }

theorem set_self {l : List Int} {i : Nat} : l.set i (l.getD i 0) = l := by
  refine List.ext_getElem? fun j => ?_
  rw [List.getElem?_set]
  by_cases he : i = j
  · subst he
    by_cases h : i < l.length
    · rw [if_pos rfl, if_pos h, List.getElem?_eq_getElem h, List.getD_eq_getElem?_getD, List.getElem?_eq_getElem h]; rfl
    · rw [if_pos rfl, if_neg h, List.getElem?_eq_none (by omega)]
  · rw [if_neg he]

theorem RAlloc_sim {N : Nat} {t : RSt} {s : PSt} {C A : List Cel} (h : RSim t s C A) (hg : SGood N s C) (hN : N + 1 ≤ 200) (hA : A.length ≤ N) {i : Nat} {r : PReg} (hi : s.regs[i]? = some r) (ho : r.op = true) {wd : Nat} (hw1 : 1 ≤ wd) (hw2 : wd ≤ 4097) :
    ∃ t', RSim t' (allocP s i wd r).2 (C ++ [⟨i, (allocP s i wd r).1, wd⟩]) (A ++ [⟨i, (allocP s i wd r).1, wd⟩]) ∧ ∀ (w : World) (ρ : Ghost) (a : Nat), RRep w ρ a t →
      Calls Try.prog 16 #[.pointer (some ⟨a, 0, none⟩), .int .i64 i, .int .i64 wd] w (RAPost ρ a t' (allocP s i wd r).1 w) := by
  have hF := h.fine hg (by omega) hA
  have hM := h.room
  have hop : rOpen t i = true := by
    rw [h.isOpen]
    unfold isOpenB
    have hil := (List.getElem?_eq_some_iff.1 hi).1
    have e1 : ((i : Nat) : Int).toNat = i := by omega
    rw [e1, List.getD_eq_getElem?_getD, hi]
    simp [ho]; omega
  obtain ⟨hc1, hc2⟩ := h.cur i r hi ho
  by_cases hl : 16 < wd
  · obtain ⟨hg', first, hT⟩ := good_take hg hi ho (many := (wd + 15) / 16) (by omega) (by omega)
    have hs := sim_take h hg hi ho (many := (wd + 15) / 16) (by omega) (by omega)
    have hf := sim_first h hg (i := i) (many := (wd + 15) / 16) (by omega)
    have e : ((takeS s i ((wd + 15) / 16)).1 * 16).toNat = 16 * rAt t.own ((wd + 15) / 16) := by rw [hf]; omega
    unfold allocP
    rw [if_pos hl, e]
    exact ⟨_, sim_fin hs hT.reg ho _ wd hw2, fun w ρ a H => RAlloc_large w ρ a t H hF hM i wd hop hw1 hl hw2⟩
  · by_cases hrm : 0 ≤ r.cur ∧ r.fil + wd ≤ 16
    · rcases hg.cur i r hi with ⟨h1, _⟩ | ⟨q, f, h1, h2, h3, h4, h5, h6⟩
      · omega
      · have e : (r.cur * 16 + r.fil).toNat = 16 * q + f := by omega
        unfold allocP
        rw [if_neg hl, if_pos hrm, e]
        have hq := (hg.pg_lt hi h3).2
        have hs := sim_cur h hi q ((f : Int) + wd) (by rw [h.ownl]; exact hq) (by omega)
        have e2 : t.cur.set i (q : Int) = t.cur := by rw [← h1, ← hc1]; exact set_self
        have e3 : setCur s.regs i q ((f : Int) + wd) = setFil s.regs i (r.fil + wd) := by rw [setFil_eq hi, h1, h2]
        rw [e2, e3] at hs
        have hr' : (setFil s.regs i (r.fil + wd))[i]? = some { r with fil := r.fil + wd } := by
          unfold setFil
          rw [modify_set hi, List.getElem?_set, if_pos rfl, if_pos (List.getElem?_eq_some_iff.1 hi).1]
        exact ⟨_, sim_fin hs hr' ho _ wd hw2, fun w ρ a H => RAlloc_room w ρ a t H hF hM i wd hop hw1 (by omega) q f (by rw [hc1, h1]) (by rw [hc2, h2]) (by omega)⟩
    · obtain ⟨hg', first, hT⟩ := good_take hg hi ho (many := 1) (by omega) (by omega)
      have hs := sim_take h hg hi ho (many := 1) (by omega) (by omega)
      have hf := sim_first h hg (i := i) (many := 1) (by omega)
      have e : ((takeS s i 1).1 * 16).toNat = 16 * rAt t.own 1 + 0 := by rw [hf]; omega
      unfold allocP
      rw [if_neg hl, if_neg hrm, e]
      have hs2 := sim_cur hs hT.reg (takeS s i 1).1 wd (by rw [hT.fst, hs.ownl]; have := hT.fit; omega) (by omega)
      have e2 : ({ (rTake t i 1) with cur := (rTake t i 1).cur.set i (takeS s i 1).1, fil := (rTake t i 1).fil.set i (wd : Int) } : RSt) = rIn (rNew t i) i wd ((0 : Nat) : Int) := by
        unfold rIn rNew
        rw [hf]
        dsimp only
        rw [List.set_set]
        have : (((0 : Nat) : Int) + (wd : Int)) = wd := by omega
        rw [this]; rfl
      rw [e2] at hs2
      have hr' : (setCur (takeS s i 1).2.regs i (takeS s i 1).1 wd)[i]? = some { r with pgs := r.pgs ++ upTo first 1, cur := (takeS s i 1).1, fil := wd } := by
        unfold setCur
        rw [modify_set hT.reg, List.getElem?_set, if_pos rfl, if_pos (List.getElem?_eq_some_iff.1 hT.reg).1]
      refine ⟨_, sim_fin hs2 hr' ho _ wd hw2, fun w ρ a H => ?_⟩
      rcases hg.cur i r hi with ⟨q1, q2⟩ | ⟨q, f, q1, q2, q3, q4, q5, q6⟩
      · exact RAlloc_new1 w ρ a t H hF hM i wd hop hw1 (by omega) (by rw [hc1]; omega) 0 rfl
      · exact RAlloc_new2 w ρ a t H hF hM i wd hop hw1 (by omega) (by rw [hc1]; omega) (by rw [hc2]; omega) 0 rfl

/-! ### find -/
theorem apart_at {C : List Cel} (h : C.Pairwise Cel.apart) (hw : ∀ c ∈ C, 1 ≤ c.wd) {c d : Cel} (hc : c ∈ C) (hd : d ∈ C) (he : c.at_ = d.at_) : c = d := by
  obtain ⟨i, hi⟩ := List.mem_iff_getElem?.1 hc
  obtain ⟨j, hj⟩ := List.mem_iff_getElem?.1 hd
  obtain ⟨hi1, rfl⟩ := List.getElem?_eq_some_iff.1 hi
  obtain ⟨hj1, rfl⟩ := List.getElem?_eq_some_iff.1 hj
  have h2 := List.pairwise_iff_getElem.1 h
  have w1 := hw _ hc
  have w2 := hw _ hd
  rcases Nat.lt_trichotomy i j with hlt | heq | hgt
  · have := h2 i j hi1 hj1 hlt
    unfold Cel.apart at this; omega
  · subst heq; rfl
  · have := h2 j i hj1 hi1 hgt
    unfold Cel.apart at this; omega
theorem sim_find {N : Nat} {t : RSt} {s : PSt} {C A : List Cel} (h : RSim t s C A) (hg : SGood N s C) (n x f : Int) : rFind t n x f = errOf s C n x f := by
  unfold rFind errOf
  rw [h.isOpen]
  by_cases ho : isOpenB s n = true
  · rw [if_pos ho, if_pos ho]
    obtain ⟨i, r, rfl, hi, hr⟩ := isOpenB_some ho
    have hbl : t.beg.length = A.length := by rw [h.beg]; simp
    have hhit : ∀ k (hk : k < A.length), rHit t i x k = true ↔ (A[k].reg = i ∧ (A[k].at_ : Int) = x) := by
      intro k hk
      unfold rHit
      rw [h.reg, h.beg, List.getD_eq_getElem?_getD, List.getElem?_map, List.getElem?_eq_getElem hk, List.getD_eq_getElem?_getD, List.getElem?_map, List.getElem?_eq_getElem hk]
      simp; omega
    have hlive : ∀ c, c ∈ A → c.reg = i → c ∈ C := by
      intro c hc hci
      rw [h.live, List.mem_filter]
      refine ⟨hc, ?_⟩
      rw [hci, h.op_get hi]; exact hr
    have hsub : ∀ c, c ∈ C → c ∈ A := by
      intro c hc
      rw [h.live] at hc
      exact (List.mem_filter.1 hc).1
    cases hk : rFindK t i x with
    | none =>
      have hnone : cellAt C i x = none := by
        cases hc : cellAt C i x with
        | none => rfl
        | some c =>
          obtain ⟨h1, h2, h3⟩ := cellAt_some hc
          obtain ⟨k, hk2⟩ := List.mem_iff_getElem?.1 (hsub c h1)
          obtain ⟨hk3, rfl⟩ := List.getElem?_eq_some_iff.1 hk2
          unfold rFindK at hk
          have := List.find?_eq_none.1 hk k (List.mem_range.2 (by omega))
          exact absurd ((hhit k hk3).2 ⟨by omega, h3⟩) this
      rw [hnone]
    | some k =>
      unfold rFindK at hk
      have h1 := List.find?_some hk
      have h2 := List.mem_range.1 (List.mem_of_find?_eq_some hk)
      rw [hbl] at h2
      obtain ⟨h3, h4⟩ := (hhit k h2).1 h1
      have hc := hlive _ (List.getElem_mem h2) h3
      cases hcc : cellAt C i x with
      | none => exact absurd ⟨by rw [h3], h4⟩ (cellAt_none hcc _ hc)
      | some c =>
        obtain ⟨g1, g2, g3⟩ := cellAt_some hcc
        have heq : c = A[k] := apart_at hg.apart (fun c hc => by obtain ⟨_, _, _, h, _⟩ := hg.cel c hc; exact h) g1 hc (by omega)
        dsimp only
        have hsz : t.siz.getD k 0 = c.wd := by
          rw [h.siz, List.getD_eq_getElem?_getD, List.getElem?_map, List.getElem?_eq_getElem h2, heq]; rfl
        rw [hsz]
        by_cases hf : 0 ≤ f ∧ f < c.wd
        · rw [if_pos hf, if_neg (by omega)]
        · rw [if_neg hf, if_pos (by omega)]
  · rw [if_neg ho, if_neg ho]

/-! ### the counts -/
theorem sim_words {N : Nat} {t : RSt} {s : PSt} {C A : List Cel} (h : RSim t s C A) (hg : SGood N s C) : rWords t = s.held := by
  have key : ∀ j, j ≤ A.length → rWordsTo t j = sumWd ((A.take j).filter fun c => t.op.getD c.reg false) := by
    intro j
    induction j with
    | zero => intro _; rfl
    | succ j ih =>
      intro hj
      have hj' : j < A.length := by omega
      have hw : rWordAt t j = if t.op.getD A[j].reg false then (A[j].wd : Int) else 0 := by
        unfold rWordAt
        rw [h.reg, h.siz, List.getD_eq_getElem?_getD (l := A.map _) , List.getElem?_map, List.getElem?_eq_getElem hj', List.getD_eq_getElem?_getD (l := A.map _), List.getElem?_map, List.getElem?_eq_getElem hj']
        rfl
      rw [rWordsTo_succ, ih (by omega), hw, List.take_succ_eq_append_getElem hj', List.filter_append]
      unfold sumWd
      by_cases hop : t.op.getD A[j].reg false = true
      · rw [if_pos hop, List.filter_cons, if_pos hop]; simp
      · rw [if_neg hop, List.filter_cons, if_neg hop]; simp
  unfold rWords
  have hbl : t.beg.length = A.length := by rw [h.beg]; simp
  rw [hbl, key _ (Nat.le_refl _), List.take_length, ← h.live, hg.held]

theorem filter_len {α : Type} (l : List α) (p q : α → Bool) (h : ∀ x ∈ l, q x = !p x) : (l.filter p).length + (l.filter q).length = l.length := by
  induction l with
  | nil => rfl
  | cons x l ih =>
    have h1 := h x (by simp)
    have h2 := ih (fun y hy => h y (by simp [hy]))
    rw [List.filter_cons, List.filter_cons, h1]
    cases p x <;> simp <;> omega
theorem sim_pages {N : Nat} {t : RSt} {s : PSt} {C A : List Cel} (h : RSim t s C A) (hg : SGood N s C) : (rPages t : Int) = s.used ∧ (t.own.length : Int) - rPages t = s.wait.length := by
  have hown : t.own = (List.range s.np).map fun p => t.own.getD p 0 := by
    refine List.ext_getElem? fun p => ?_
    rw [List.getElem?_map]
    by_cases hp : p < s.np
    · have hpl : p < t.own.length := by rw [h.ownl]; exact hp
      rw [List.getElem?_range hp, List.getElem?_eq_getElem hpl]
      simp [List.getElem?_eq_getElem hpl]
    · rw [List.getElem?_eq_none (by rw [h.ownl]; omega), List.getElem?_eq_none (by simp; omega)]; rfl
  have hmem : ∀ x ∈ t.own, x = -1 ∨ 0 ≤ x := by
    intro x hx
    rw [hown] at hx
    obtain ⟨p, hp, rfl⟩ := List.mem_map.1 hx
    rcases h.own_cases hg (List.mem_range.1 hp) with h1 | ⟨i, _, h1⟩
    · exact .inl h1
    · exact .inr (by rw [h1]; omega)
  have h1 := filter_len t.own (fun x => decide (0 ≤ x)) (fun x => decide (x = -1)) (fun x hx => by
    rcases hmem x hx with rfl | h2
    · rfl
    · have : ¬ x = -1 := by omega
      simp [h2, this])
  have h2 : (t.own.filter (fun x => decide (x = -1))).length = s.wait.length := by
    have e : (t.own.filter (fun x => decide (x = -1))).length = (((List.range s.np).filter (fun p => decide (t.own.getD p 0 = -1))).map fun p : Nat => (p : Int)).length := by
      rw [List.length_map]
      conv => lhs; rw [hown, List.filter_map, List.length_map]
      rfl
    rw [e]
    refine List.Perm.length_eq ?_
    rw [List.perm_ext_iff_of_nodup]
    · intro x
      simp only [List.mem_map, List.mem_filter, List.mem_range, decide_eq_true_eq]
      constructor
      · rintro ⟨p, ⟨hp, hp2⟩, rfl⟩
        exact (h.ownw p hp).1 hp2
      · intro hx
        have := hg.wt_lt hx
        exact ⟨x.toNat, ⟨by omega, (h.ownw _ (by omega)).2 (by rw [Int.toNat_of_nonneg this.1]; exact hx)⟩, Int.toNat_of_nonneg this.1⟩
    · unfold List.Nodup
      rw [List.pairwise_map]
      exact ((List.nodup_range (n := s.np)).filter _).imp (fun {a b} h => by omega)
    · exact (List.nodup_append.1 hg.nodup).1
  have h3 : rPages t = (t.own.filter (fun x => decide (0 ≤ x))).length := by
    unfold rPages rPagesTo
    rw [List.take_length]
  have h4 := h.ownl
  have h5 := hg.len
  have h6 := hg.used
  constructor <;> omega

end Go.Proofs.Ytgejmgomliadmaa
