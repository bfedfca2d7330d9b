/- The laws' user as plain data: what each of its moves leaves. -/
import Derived.Test.YtgejmgomliadmaaUsA
set_option linter.unusedVariables false
namespace Go.Proofs.Ytgejmgomliadmaa
open Go Go.RowKit

def USt.C (S : USt) : List Cel := S.cs.map UC.cel
structure UInv (N : Nat) (S : USt) : Prop where
  good : SGood N S.s S.C
  many : S.many = S.s.regs.length
  opn : ∀ x ∈ S.opn, ∃ (i : Nat) (r : PReg), x = i ∧ S.s.regs[i]? = some r ∧ r.op = true
  nd : S.opn.Nodup
  all : ∀ (i : Nat) (r : PReg), S.s.regs[i]? = some r → r.op = true → (i : Int) ∈ S.opn
  nopn : S.opn.length ≤ N
  data : ∀ c ∈ S.cs, ∀ k, k < c.fs.length → S.s.data.getD (c.at_ + k) 0 = c.fs.getD k 0
inductive UMove (S : USt) : USt → Prop
  | opn : UMove S ⟨{ S.s with regs := S.s.regs ++ [PReg.new] }, S.many + 1, S.opn ++ [(S.many : Int)], S.cs, S.large⟩
  | cls (k i : Nat) (r : PReg) (hk : S.opn[k]? = some (i : Int)) (hi : S.s.regs[i]? = some r) (ho : r.op = true) : UMove S ⟨closeS S.s i r, S.many, S.opn.take k ++ S.opn.drop (k + 1), S.cs.filter (fun c => c.reg != i), S.large⟩
  | alc (i wd g : Nat) (r : PReg) (hi : S.s.regs[i]? = some r) (ho : r.op = true) (h1 : 1 ≤ wd) (h2 : wd ≤ 40) : UMove S ⟨(allocP S.s i wd r).2, S.many, S.opn, S.cs ++ [⟨i, (allocP S.s i wd r).1, g, List.replicate wd 0⟩], S.large || decide (16 < wd)⟩
  | set (k f : Nat) (c : UC) (v : Int) (hk : S.cs[k]? = some c) (hf : f < c.fs.length) : UMove S ⟨{ S.s with data := S.s.data.set (c.at_ + f) v }, S.many, S.opn, S.cs.set k { c with fs := c.fs.set f v }, S.large⟩
  | same : UMove S S

theorem uinv_new : UInv 0 ⟨hs0, 0, [], [], false⟩ where
  good := good_new
  many := rfl
  opn := by simp
  nd := by simp
  all := by simp [hs0]
  nopn := by simp
  data := by simp

/-! ### what Alloc does to the words -/
theorem zeroAt_getD {l : List Int} {a n : Nat} (h : a + n ≤ l.length) (p : Nat) : (zeroAt l a n).getD p 0 = if a ≤ p ∧ p < a + n then 0 else l.getD p 0 := by
  unfold zeroAt
  rw [List.getD_eq_getElem?_getD, splice_get (by simpa using h)]
  simp only [List.length_replicate]
  by_cases h1 : p < a
  · have : ¬ (a ≤ p ∧ p < a + n) := by omega
    simp [h1, this, List.getD_eq_getElem?_getD]
  · by_cases h2 : p < a + n
    · have : a ≤ p ∧ p < a + n := by omega
      have h3 : p - a < n := by omega
      simp [h1, h2, this, List.getElem?_replicate, h3]
    · have : ¬ (a ≤ p ∧ p < a + n) := by omega
      simp [h1, h2, List.getD_eq_getElem?_getD]
theorem getD_zeros (l : List Int) (k p : Nat) : (l ++ List.replicate k 0).getD p 0 = l.getD p 0 := by
  by_cases h : p < l.length
  · rw [List.getD_eq_getElem?_getD, List.getElem?_append_left h, ← List.getD_eq_getElem?_getD]
  · rw [List.getD_eq_getElem?_getD, List.getElem?_append_right (by omega), List.getD_eq_getElem?_getD, List.getElem?_eq_none (by omega : l.length ≤ p), List.getElem?_replicate]
    split <;> rfl
theorem takeS_getD (s : PSt) (i many p : Nat) : (takeS s i many).2.data.getD p 0 = s.data.getD p 0 := by
  cases hk : runK s.wait many with
  | none => simp only [takeS, hk]; exact getD_zeros _ _ _
  | some k => simp only [takeS, hk]
theorem allocP_data {N : Nat} {s : PSt} {C : List Cel} (h : SGood N s C) (hN : N + 1 ≤ 200) {i : Nat} {r : PReg} (hi : s.regs[i]? = some r) (ho : r.op = true) {wd : Nat} (hw1 : 1 ≤ wd) (hw2 : wd ≤ 4097) (p : Nat) :
    (allocP s i wd r).2.data.getD p 0 = if (allocP s i wd r).1 ≤ p ∧ p < (allocP s i wd r).1 + wd then 0 else s.data.getD p 0 := by
  have hg := (alloc_good h hN hi ho hw1 hw2).1
  have hfit := hg.cel_fit (List.mem_append_right C (List.mem_singleton.2 rfl))
  have hd := hg.data
  dsimp only at hfit
  have key : ∀ (s' : PSt) (at_ : Nat), (∀ q, s'.data.getD q 0 = s.data.getD q 0) → s'.data.length = s'.np * 16 → at_ + wd ≤ (finS s' i at_ wd).np * 16 → (finS s' i at_ wd).data.getD p 0 = if at_ ≤ p ∧ p < at_ + wd then 0 else s.data.getD p 0 := by
    intro s' at_ hq hdl hl
    have hl : at_ + wd ≤ s'.np * 16 := hl
    show (zeroAt s'.data at_ wd).getD p 0 = _
    rw [zeroAt_getD (by omega), hq]
  unfold allocP at hfit ⊢
  split
  · rename_i h1
    rw [if_pos h1] at hfit
    exact key _ _ (fun q => takeS_getD s i _ q) (good_take h hi ho (by omega) (by omega)).1.data hfit
  · rename_i h1
    rw [if_neg h1] at hfit
    split
    · rename_i h2
      rw [if_pos h2] at hfit
      exact key _ _ (fun q => rfl) h.data hfit
    · rename_i h2
      rw [if_neg h2] at hfit
      exact key _ _ (fun q => takeS_getD s i _ q) (good_take h hi ho (by omega) (by omega)).1.data hfit

theorem allocP_ops {N : Nat} {s : PSt} {C : List Cel} (h : SGood N s C) {i : Nat} {r : PReg} (hi : s.regs[i]? = some r) (ho : r.op = true) {wd : Nat} (h1 : 1 ≤ wd) (h2 : wd ≤ 4097) :
    (allocP s i wd r).2.regs.length = s.regs.length ∧ ∀ j : Nat, ((allocP s i wd r).2.regs[j]?).map PReg.op = (s.regs[j]?).map PReg.op := by
  have hmod : ∀ (l : List PReg) (f : PReg → PReg), (∀ r, (f r).op = r.op) → (l.modify i f).length = l.length ∧ ∀ j : Nat, ((l.modify i f)[j]?).map PReg.op = (l[j]?).map PReg.op := by
    intro l f hf
    refine ⟨by simp, fun j => ?_⟩
    rw [List.getElem?_modify]
    cases l[j]? with
    | none => rfl
    | some x =>
      show some (if i = j then f x else x).op = some x.op
      split <;> simp [hf]
  have htake : ∀ many, (takeS s i many).2.regs.length = s.regs.length ∧ ∀ j : Nat, ((takeS s i many).2.regs[j]?).map PReg.op = (s.regs[j]?).map PReg.op := by
    intro many
    cases hk : runK s.wait many with
    | none => simp only [takeS, hk, addPgs]; exact hmod _ _ (fun _ => rfl)
    | some k => simp only [takeS, hk, addPgs]; exact hmod _ _ (fun _ => rfl)
  have hfin : ∀ (s' : PSt) (at_ : Nat), (finS s' i at_ wd).regs.length = s'.regs.length ∧ ∀ j : Nat, ((finS s' i at_ wd).regs[j]?).map PReg.op = (s'.regs[j]?).map PReg.op := fun s' at_ => hmod _ _ (fun _ => rfl)
  unfold allocP
  split
  · exact ⟨(hfin _ _).1.trans (htake _).1, fun j => ((hfin _ _).2 j).trans ((htake _).2 j)⟩
  · split
    · have h3 := hmod s.regs (fun r' => { r' with fil := r.fil + wd }) (fun _ => rfl)
      exact ⟨(hfin _ _).1.trans h3.1, fun j => ((hfin _ _).2 j).trans (h3.2 j)⟩
    · have h3 := hmod (takeS s i 1).2.regs (fun r' => { r' with cur := (takeS s i 1).1, fil := (wd : Int) }) (fun _ => rfl)
      exact ⟨(hfin _ _).1.trans (h3.1.trans (htake _).1), fun j => ((hfin _ _).2 j).trans ((h3.2 j).trans ((htake _).2 j))⟩
theorem setC (cs : List UC) (k f : Nat) (c : UC) (v : Int) (hk : cs[k]? = some c) : (cs.set k { c with fs := c.fs.set f v }).map UC.cel = cs.map UC.cel := by
  refine List.ext_getElem? fun j => ?_
  rw [List.getElem?_map, List.getElem?_set, List.getElem?_map]
  by_cases he : k = j
  · subst he
    rw [if_pos rfl, hk, if_pos (List.getElem?_eq_some_iff.1 hk).1]
    simp [UC.cel]
  · rw [if_neg he]

theorem UC.apart_has {c d : Cel} (h : c.apart d) {t : Nat} (hc : c.has t) : ¬ d.has t := by
  unfold Cel.apart at h
  rintro ⟨h1, h2⟩
  obtain ⟨h3, h4⟩ := hc
  omega
theorem take_drop_mem {l : List Int} {k : Nat} {x : Int} (h : x ∈ l.take k ++ l.drop (k + 1)) : x ∈ l := by
  rw [List.mem_append] at h
  rcases h with h | h
  · exact List.mem_of_mem_take h
  · exact List.mem_of_mem_drop h
theorem uinv_move {N : Nat} {S S' : USt} (h : UInv N S) (hN : N + 1 ≤ 200) (hm : UMove S S') : UInv (N + 1) S' := by
  cases hm with
  | opn =>
    have hnone : ∀ (i : Nat) (r : PReg), (S.s.regs ++ [PReg.new])[i]? = some r → S.s.regs[i]? = some r ∨ i = S.s.regs.length := by
      intro i r hi
      by_cases h1 : i < S.s.regs.length
      · rw [List.getElem?_append_left h1] at hi; exact .inl hi
      · have := (List.getElem?_eq_some_iff.1 hi).1
        simp at this
        exact .inr (by omega)
    have hlt : ∀ x ∈ S.opn, x < S.s.regs.length := fun x hx => by
      obtain ⟨i, r, rfl, hi, _⟩ := h.opn x hx
      have := (List.getElem?_eq_some_iff.1 hi).1
      omega
    exact {
      good := good_open h.good
      many := by simp [h.many]
      opn := by
        intro x hx
        rw [List.mem_append, List.mem_singleton] at hx
        rcases hx with hx | rfl
        · obtain ⟨i, r, rfl, hi, ho⟩ := h.opn x hx
          exact ⟨i, r, rfl, by dsimp only; rw [List.getElem?_append_left (List.getElem?_eq_some_iff.1 hi).1]; exact hi, ho⟩
        · refine ⟨S.many, PReg.new, rfl, ?_, rfl⟩
          dsimp only
          rw [h.many]; simp
      nd := by
        dsimp only
        rw [List.nodup_append]
        refine ⟨h.nd, by simp, fun x hx y hy => ?_⟩
        rw [List.mem_singleton] at hy
        have := hlt x hx
        rw [hy, h.many]; omega
      all := by
        intro i r hi ho
        rw [List.mem_append, List.mem_singleton]
        rcases hnone i r hi with hi | rfl
        · exact .inl (h.all i r hi ho)
        · exact .inr (by rw [h.many])
      nopn := by have := h.nopn; simp; omega
      data := h.data }
  | cls k i r hk hi ho =>
    have hg := good_close h.good hi
    have hC : (S.cs.filter (fun c => c.reg != i)).map UC.cel = S.C.filter (fun c => c.reg != i) := by
      unfold USt.C
      rw [List.filter_map]; rfl
    have hget : ∀ (j : Nat) (r' : PReg), (S.s.regs.set i PReg.none)[j]? = some r' → (j = i ∧ r' = PReg.none) ∨ (j ≠ i ∧ S.s.regs[j]? = some r') := by
      intro j r' hj
      rw [List.getElem?_set] at hj
      by_cases he : i = j
      · rw [if_pos he, if_pos (List.getElem?_eq_some_iff.1 hi).1] at hj
        exact .inl ⟨he.symm, by cases hj; rfl⟩
      · rw [if_neg he] at hj
        exact .inr ⟨fun h => he h.symm, hj⟩
    obtain ⟨la, lb, hl, hla⟩ := part_at hk
    have hop : S.opn.take k ++ S.opn.drop (k + 1) = la ++ lb := by rw [hl, ← hla]; simp
    have hnd := h.nd
    rw [hl] at hnd
    have hni : (i : Int) ∉ la ++ lb := by
      rw [List.nodup_append, List.nodup_cons] at hnd
      intro hx
      rw [List.mem_append] at hx
      rcases hx with hx | hx
      · exact hnd.2.2 _ hx _ (List.mem_cons_self ..) rfl
      · exact hnd.2.1.1 hx
    exact {
      good := by
        show SGood (N + 1) (closeS S.s i r) ((S.cs.filter (fun c => c.reg != i)).map UC.cel)
        rw [hC]; exact hg.mono (Nat.le_succ N)
      many := by show S.many = (S.s.regs.set i PReg.none).length; rw [List.length_set]; exact h.many
      opn := by
        intro x hx
        dsimp only at hx
        rw [hop] at hx
        have hx2 : x ∈ S.opn := by
          rw [hl]
          rw [List.mem_append] at hx ⊢
          rcases hx with hx | hx
          · exact .inl hx
          · exact .inr (List.mem_cons_of_mem _ hx)
        obtain ⟨j, r', rfl, hj, ho'⟩ := h.opn x hx2
        refine ⟨j, r', rfl, ?_, ho'⟩
        show (S.s.regs.set i PReg.none)[j]? = some r'
        rw [List.getElem?_set, if_neg (by rintro rfl; exact hni hx)]
        exact hj
      nd := by
        dsimp only
        rw [hop]
        exact hnd.sublist (List.Sublist.append (List.Sublist.refl _) (List.sublist_cons_self _ _))
      all := by
        intro j r' hj ho'
        rcases hget j r' hj with ⟨rfl, rfl⟩ | ⟨hne, hj⟩
        · cases ho'
        · have hm := h.all j r' hj ho'
          dsimp only
          rw [hop]
          rw [hl, List.mem_append, List.mem_cons] at hm
          rw [List.mem_append]
          rcases hm with hm | hm | hm
          · exact .inl hm
          · omega
          · exact .inr hm
      nopn := by
        have := h.nopn
        dsimp only
        rw [hop]
        rw [hl] at this
        simp at this ⊢; omega
      data := fun c hc => h.data c (List.mem_filter.1 hc).1 }
  | alc i wd g r hi ho h1 h2 =>
    have hg := (alloc_good h.good hN hi ho h1 (by omega)).1
    have hdat := allocP_data h.good hN hi ho h1 (show wd ≤ 4097 by omega)
    have hap := hg.apart
    rw [List.pairwise_append] at hap
    have hregs : (allocP S.s i wd r).2.regs.length = S.s.regs.length ∧ ∀ j : Nat, ((allocP S.s i wd r).2.regs[j]?).map PReg.op = (S.s.regs[j]?).map PReg.op := allocP_ops h.good hi ho h1 (by omega)
    exact {
      good := by
        show SGood (N + 1) (allocP S.s i wd r).2 ((S.cs ++ [UC.mk i (allocP S.s i wd r).1 g (List.replicate wd 0)]).map UC.cel)
        rw [List.map_append]
        have : [UC.mk i (allocP S.s i wd r).1 g (List.replicate wd 0)].map UC.cel = [Cel.mk i (allocP S.s i wd r).1 wd] := by simp [UC.cel]
        rw [this]; exact hg
      many := by dsimp only; rw [hregs.1]; exact h.many
      opn := by
        intro x hx
        obtain ⟨j, r', rfl, hj, ho'⟩ := h.opn x hx
        have h3 := hregs.2 j
        rw [hj] at h3
        cases hq : (allocP S.s i wd r).2.regs[j]? with
        | none => rw [hq] at h3; cases h3
        | some r2 =>
          rw [hq] at h3
          simp only [Option.map_some, Option.some.injEq] at h3
          exact ⟨j, r2, rfl, hq, by rw [h3]; exact ho'⟩
      nd := h.nd
      all := by
        intro j r2 hj ho'
        have hj : (allocP S.s i wd r).2.regs[j]? = some r2 := hj
        have h3 := hregs.2 j
        rw [hj] at h3
        cases hq : S.s.regs[j]? with
        | none => rw [hq] at h3; cases h3
        | some r' =>
          rw [hq] at h3
          simp only [Option.map_some, Option.some.injEq] at h3
          exact h.all j r' hq (by rw [← h3]; exact ho')
      nopn := Nat.le_trans h.nopn (Nat.le_succ N)
      data := by
        intro c hc k hk
        rw [List.mem_append, List.mem_singleton] at hc
        show (allocP S.s i wd r).2.data.getD (c.at_ + k) 0 = _
        rw [hdat]
        rcases hc with hc | rfl
        · have h4 := hap.2.2 c.cel (List.mem_map.2 ⟨c, hc, rfl⟩) _ (List.mem_singleton.2 rfl)
          have h5 : ¬ ((allocP S.s i wd r).1 ≤ c.at_ + k ∧ c.at_ + k < (allocP S.s i wd r).1 + wd) := UC.apart_has h4 (t := c.at_ + k) ⟨by simp [UC.cel], by simp [UC.cel]; exact hk⟩
          rw [if_neg h5]
          exact h.data c hc k hk
        · dsimp only at hk ⊢
          rw [List.length_replicate] at hk
          rw [if_pos (by omega), List.getD_eq_getElem?_getD, List.getElem?_replicate, if_pos hk]; rfl }
  | set k f c v hk hf =>
    have hC := setC S.cs k f c v hk
    have hcm := List.mem_of_getElem? hk
    exact {
      good := by
        show SGood (N + 1) { S.s with data := S.s.data.set (c.at_ + f) v } ((S.cs.set k { c with fs := c.fs.set f v }).map UC.cel)
        rw [hC]
        exact (good_data h.good _ (by simp)).mono (Nat.le_succ N)
      many := h.many
      opn := h.opn
      nd := h.nd
      all := h.all
      nopn := Nat.le_trans h.nopn (Nat.le_succ N)
      data := by
        intro d hd j hj
        obtain ⟨m, hm⟩ := List.mem_iff_getElem?.1 hd
        dsimp only at hm
        rw [List.getElem?_set] at hm
        have hfit := h.good.cel_fit (c := c.cel) (List.mem_map.2 ⟨c, hcm, rfl⟩)
        have hdl := h.good.data
        unfold UC.cel at hfit
        dsimp only at hfit
        dsimp only
        rw [List.getD_eq_getElem?_getD, List.getElem?_set]
        by_cases he : k = m
        · rw [if_pos he, if_pos (by subst he; exact (List.getElem?_eq_some_iff.1 hk).1)] at hm
          cases hm
          dsimp only at hj ⊢
          rw [List.length_set] at hj
          rw [List.getD_eq_getElem?_getD, List.getElem?_set]
          by_cases hfj : f = j
          · subst hfj
            rw [if_pos rfl, if_pos (by omega), if_pos rfl, if_pos hf]
          · rw [if_neg (by omega), if_neg hfj, ← List.getD_eq_getElem?_getD, ← List.getD_eq_getElem?_getD]
            exact h.data c hcm j hj
        · rw [if_neg he] at hm
          have hne : c.cel.apart d.cel ∨ d.cel.apart c.cel := by
            have hp := h.good.apart
            unfold USt.C at hp
            rw [List.pairwise_map, List.pairwise_iff_getElem] at hp
            obtain ⟨h1, rfl⟩ := List.getElem?_eq_some_iff.1 hk
            obtain ⟨h2, rfl⟩ := List.getElem?_eq_some_iff.1 hm
            rcases Nat.lt_or_gt_of_ne he with h3 | h3
            · exact .inl (hp k m h1 h2 h3)
            · exact .inr (hp m k h2 h1 h3)
          have hx : c.at_ + f ≠ d.at_ + j := by
            intro hx
            rcases hne with hne | hne <;> (unfold Cel.apart UC.cel at hne; dsimp only at hne; omega)
          rw [if_neg hx, ← List.getD_eq_getElem?_getD]
          exact h.data d (List.mem_of_getElem? hm) j hj }
  | same => exact { h with good := h.good.mono (Nat.le_succ N), nopn := Nat.le_trans h.nopn (Nat.le_succ N) }

end Go.Proofs.Ytgejmgomliadmaa
