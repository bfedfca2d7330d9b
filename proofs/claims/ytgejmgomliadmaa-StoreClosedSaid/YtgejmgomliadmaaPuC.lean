/- The store as plain data: pages are taken, a cell is made. -/
import Derived.Test.YtgejmgomliadmaaPuB
set_option linter.unusedVariables false
namespace Go.Proofs.Ytgejmgomliadmaa
open Go

theorem rising_ge {l : List Int} (h : Rising l) {i : Nat} : ∀ d, i + d < l.length → l.getD i 0 + d ≤ l.getD (i + d) 0 := by
  intro d
  induction d with
  | zero => intro _; simp
  | succ d ih =>
    intro hd
    have h1 := ih (by omega)
    have h2 := h (i + d) (i + (d + 1)) (by omega) hd
    push_cast; omega
theorem seg_upTo {l : List Int} (h : Rising l) {k many : Nat} (hm : 1 ≤ many) (hk : k + many ≤ l.length) (hr : runAt l many k = true) : (l.drop k).take many = upTo (l.getD k 0) many := by
  refine List.ext_getElem? fun j => ?_
  by_cases hj : j < many
  · rw [upTo_getD _ _ _ hj, List.getElem?_take, if_pos hj, List.getElem?_drop, List.getElem?_eq_getElem (by omega)]
    have h1 := rising_ge h (i := k) j (by omega)
    have h2 := rising_ge h (i := k + j) (many - 1 - j) (by omega)
    have h3 : l.getD (k + many - 1) 0 - l.getD k 0 = (many : Int) - 1 := by simpa [runAt] using hr
    rw [show k + j + (many - 1 - j) = k + many - 1 by omega] at h2
    have h4 : l.getD (k + j) 0 = l[k + j]'(by omega) := by rw [List.getD_eq_getElem?_getD, List.getElem?_eq_getElem (by omega)]; rfl
    rw [← h4]
    congr 1
    omega
  · rw [List.getElem?_eq_none (by simp; omega), List.getElem?_eq_none (by rw [upTo_length]; omega)]

/-- What taking pages leaves. -/
structure Took (s : PSt) (i many : Nat) (first : Nat) (r : PReg) : Prop where
  fst : (takeS s i many).1 = first
  reg : (takeS s i many).2.regs[i]? = some { r with pgs := r.pgs ++ upTo first many }
  other : ∀ j, j ≠ i → (takeS s i many).2.regs[j]? = s.regs[j]?
  fit : first + many ≤ (takeS s i many).2.np
  new : ∀ p ∈ upTo first many, p ∉ pagesOf s
  held : (takeS s i many).2.held = s.held
  used : (takeS s i many).2.used = s.used + many
  len : (takeS s i many).2.regs.length = s.regs.length
  np : (takeS s i many).2.np = s.np ∨ (takeS s i many).2.np = s.np + many
theorem curOk_pgs {C : List Cel} {i : Nat} {r : PReg} {l : List Int} (h : CurOk C i r) : CurOk C i { r with pgs := r.pgs ++ l } := by
  rcases h with h | ⟨q, f, h1, h2, h3, h4⟩
  · exact .inl h
  · exact .inr ⟨q, f, h1, h2, List.mem_append_left _ h3, h4⟩
theorem good_take {N : Nat} {s : PSt} {C : List Cel} (h : SGood N s C) {i : Nat} {r : PReg} (hi : s.regs[i]? = some r) (ho : r.op = true) {many : Nat} (hm : 1 ≤ many) (hm2 : many ≤ 257) :
    SGood (N + 1) (takeS s i many).2 C ∧ ∃ first : Nat, Took s i many first r := by
  obtain ⟨a, b, hab, rfl⟩ := part_at hi
  have hrise : Rising s.wait := rising_iff.2 h.rise
  have hadd : ∀ f : Int, addPgs s.regs a.length f many = a ++ { r with pgs := r.pgs ++ upTo f many } :: b := by
    intro f
    unfold addPgs
    rw [hab, modify_part]
  -- what both ways have in common
  have common : ∀ (f : Nat) (s' : PSt), s'.regs = a ++ { r with pgs := r.pgs ++ upTo f many } :: b → s'.held = s.held → s'.used = s.used + many → s'.np ≤ s.np + 257 → s'.data.length = s'.np * 16 → (s'.wait ++ pagesOf s').Perm (upTo 0 s'.np) → s'.wait.Pairwise (· < ·) → SGood (N + 1) s' C := by
    intro f s' hR hh hu hn hd hp hw
    have hget : ∀ (j : Nat) (r' : PReg), s'.regs[j]? = some r' → (j = a.length ∧ r' = { r with pgs := r.pgs ++ upTo f many }) ∨ (j ≠ a.length ∧ s.regs[j]? = some r') := by
      intro j r' hj
      rw [hR, get_part a b r _ j] at hj
      split at hj
      · exact .inl ⟨by assumption, by cases hj; rfl⟩
      · exact .inr ⟨by assumption, by rw [hab]; exact hj⟩
    have hmem : ∀ r' ∈ s'.regs, r' = { r with pgs := r.pgs ++ upTo f many } ∨ r' ∈ s.regs := by
      intro r' hr'
      rw [hR] at hr'
      rw [hab]
      exact mem_part hr'
    have hrm : r ∈ s.regs := List.mem_of_getElem? hi
    exact {
      nreg := by rw [hR]; have := h.nreg; rw [hab] at this; simp at this ⊢; omega
      ncel := by have := h.ncel; omega
      nnp := by have := h.nnp; omega
      data := hd
      perm := hp
      rise := hw
      used := by
        rw [hu, h.used]
        unfold pagesOf
        rw [hR, hab]
        simp [upTo_length]; omega
      held := by rw [hh, h.held]
      shut := by
        intro r' hr' ho'
        rcases hmem r' hr' with rfl | hr'
        · exact absurd ho' (by simp [ho])
        · exact h.shut r' hr' ho'
      cls := by
        intro j r' hj
        rcases hget j r' hj with ⟨rfl, rfl⟩ | ⟨hne, hj⟩
        · exact h.cls _ r hi
        · exact h.cls j r' hj
      up := by
        intro r' hr'
        rcases hmem r' hr' with rfl | hr'
        · exact h.up r hrm
        · exact h.up r' hr'
      cel := by
        intro c hc
        obtain ⟨r', hr', h2, h3, h4, h5⟩ := h.cel c hc
        rw [hR, get_part a b r, ← hab]
        by_cases he : c.reg = a.length
        · rw [if_pos he]
          rw [he, hi] at hr'
          cases hr'
          exact ⟨_, rfl, h2, h3, h4, fun t ht => List.mem_append_left _ (h5 t ht)⟩
        · rw [if_neg he]
          exact ⟨r', hr', h2, h3, h4, h5⟩
      apart := h.apart
      cur := by
        intro j r' hj
        rcases hget j r' hj with ⟨rfl, rfl⟩ | ⟨hne, hj⟩
        · exact curOk_pgs (h.cur _ r hi)
        · exact h.cur j r' hj }
  have hpg : pagesOf s = a.flatMap PReg.pgs ++ (r.pgs ++ b.flatMap PReg.pgs) := by simp [pagesOf, hab]
  have hpgn : ∀ (f : Nat) (s' : PSt), s'.regs = a ++ { r with pgs := r.pgs ++ upTo f many } :: b → (pagesOf s').Perm (upTo f many ++ pagesOf s) := by
    intro f s' hR
    have e : pagesOf s' = (a.flatMap PReg.pgs ++ r.pgs) ++ upTo f many ++ b.flatMap PReg.pgs := by simp [pagesOf, hR]
    have e2 : upTo f many ++ pagesOf s = (upTo f many ++ (a.flatMap PReg.pgs ++ r.pgs)) ++ b.flatMap PReg.pgs := by simp [hpg]
    rw [e, e2]
    exact List.Perm.append_right _ List.perm_append_comm
  have hregs : ∀ (f : Nat) (s' : PSt), s'.regs = a ++ { r with pgs := r.pgs ++ upTo f many } :: b → s'.regs[a.length]? = some { r with pgs := r.pgs ++ upTo f many } ∧ (∀ j, j ≠ a.length → s'.regs[j]? = s.regs[j]?) ∧ s'.regs.length = s.regs.length := by
    intro f s' hR
    rw [hR]
    refine ⟨by simp, fun j hj => ?_, by rw [hab]; simp⟩
    rw [get_part a b r _ j, if_neg hj, hab]
  cases hk : runK s.wait many with
  | none =>
    have e : takeS s a.length many = ((s.np : Int), { s with np := s.np + many, data := s.data ++ List.replicate (many * 16) 0, regs := addPgs s.regs a.length s.np many, used := s.used + many }) := by simp only [takeS, hk]
    rw [hadd] at e
    have hR : (takeS s a.length many).2.regs = a ++ { r with pgs := r.pgs ++ upTo s.np many } :: b := by rw [e]
    obtain ⟨g1, g2, g3⟩ := hregs s.np _ hR
    refine ⟨common s.np _ hR (by rw [e]) (by rw [e]) (by rw [e]; dsimp only; omega) ?_ ?_ (by rw [e]; exact h.rise), s.np, ⟨by rw [e], g1, g2, ?_, ?_, by rw [e], by rw [e], g3, .inr (by rw [e])⟩⟩
    · rw [e]; simp [h.data]; omega
    · have hw : (takeS s a.length many).2.wait = s.wait := by rw [e]
      have hn : (takeS s a.length many).2.np = s.np + many := by rw [e]
      rw [hw, hn, upTo_add]
      refine List.Perm.trans (List.Perm.append_left _ (hpgn s.np _ hR)) ?_
      rw [← List.append_assoc]
      refine List.Perm.trans (List.Perm.append_right _ List.perm_append_comm) ?_
      rw [List.append_assoc]
      refine List.Perm.trans (List.Perm.append_left _ h.perm) ?_
      have : (0 : Int) + (s.np : Nat) = s.np := by omega
      rw [this]
      exact List.perm_append_comm
    · rw [e]; exact Nat.le_refl _
    · intro p hp hq
      obtain ⟨j, r', hj, hp'⟩ := mem_pagesOf.1 hq
      have := h.pg_lt hj hp'
      rw [mem_upTo] at hp
      omega
  | some k =>
    obtain ⟨k1, k2, k3⟩ := runK_some (.inr hm) hk
    have hseg := seg_upTo hrise hm k1 k2
    have hf0 : s.wait.getD k 0 ∈ s.wait := by
      rw [List.getD_eq_getElem?_getD, List.getElem?_eq_getElem (by omega)]
      exact List.getElem_mem _
    obtain ⟨f, hf⟩ := Int.eq_ofNat_of_zero_le (h.wt_lt hf0).1
    have e : takeS s a.length many = (s.wait.getD k 0, { s with wait := s.wait.take k ++ s.wait.drop (k + many), regs := addPgs s.regs a.length (s.wait.getD k 0) many, used := s.used + many }) := by simp only [takeS, hk]
    rw [hf] at e hseg
    rw [hadd] at e
    have hR : (takeS s a.length many).2.regs = a ++ { r with pgs := r.pgs ++ upTo f many } :: b := by rw [e]
    obtain ⟨g1, g2, g3⟩ := hregs f _ hR
    have hwt : s.wait = s.wait.take k ++ (upTo f many ++ s.wait.drop (k + many)) := by
      rw [← hseg, ← List.drop_drop, List.take_append_drop, List.take_append_drop]
    have hsub : ∀ p ∈ upTo f many, p ∈ s.wait := fun p hp => by
      rw [hwt]; exact List.mem_append_right _ (List.mem_append_left _ hp)
    refine ⟨common f _ hR (by rw [e]) (by rw [e]) (by rw [e]; dsimp only; omega) (by rw [e]; exact h.data) ?_ ?_, f, ⟨by rw [e], g1, g2, ?_, ?_, by rw [e], by rw [e], g3, .inl (by rw [e])⟩⟩
    · have hw : (takeS s a.length many).2.wait = s.wait.take k ++ s.wait.drop (k + many) := by rw [e]
      have hn : (takeS s a.length many).2.np = s.np := by rw [e]
      rw [hw, hn]
      refine List.Perm.trans (List.Perm.append_left _ (hpgn f _ hR)) (List.Perm.trans ?_ h.perm)
      rw [← List.append_assoc]
      refine List.Perm.append_right _ ?_
      have hX : s.wait.Perm (s.wait.take k ++ (upTo f many ++ s.wait.drop (k + many))) := by rw [← hwt]
      refine List.Perm.trans ?_ hX.symm
      rw [List.append_assoc]
      exact List.Perm.append_left _ List.perm_append_comm
    · rw [e]
      have h1 := h.rise
      rw [hwt] at h1
      exact h1.sublist (List.Sublist.append (List.Sublist.refl _) (List.sublist_append_right _ _))
    · rw [e]
      have := hsub (f + many - 1) (by rw [mem_upTo]; omega)
      have := h.wt_lt this
      show f + many ≤ s.np
      omega
    · intro p hp hq
      obtain ⟨j, r', hj, hp'⟩ := mem_pagesOf.1 hq
      exact h.pg_wt hj hp' (hsub p hp)

/-! ### A cell is written down -/
def insC : List (Int × Int) → Int × Int → List (Int × Int)
  | [], c => [c]
  | d :: l, c => if d.1 < c.1 then d :: insC l c else c :: d :: l
theorem insCls_eq (l : List (Int × Int)) (c : Int × Int) : insCls l c = insC l c := by
  unfold insCls placeOf ats
  induction l with
  | nil => simp [insC]
  | cons d l ih =>
    unfold insC
    by_cases h : d.1 < c.1
    · rw [if_pos h, ← ih]
      simp [h]
    · rw [if_neg h]
      simp [h]
theorem insC_perm (l : List (Int × Int)) (c : Int × Int) : (insC l c).Perm (c :: l) := by
  induction l with
  | nil => exact List.Perm.refl _
  | cons d l ih =>
    unfold insC
    split
    · exact List.Perm.trans (List.Perm.cons _ ih) (List.Perm.swap _ _ _)
    · exact List.Perm.refl _
theorem insC_up {l : List (Int × Int)} {c : Int × Int} (h : (l.map (·.1)).Pairwise (· < ·)) (hn : ∀ d ∈ l, d.1 ≠ c.1) : ((insC l c).map (·.1)).Pairwise (· < ·) := by
  induction l with
  | nil => simp [insC]
  | cons d l ih =>
    rw [List.map_cons, List.pairwise_cons] at h
    unfold insC
    split
    · rename_i hlt
      rw [List.map_cons, List.pairwise_cons]
      refine ⟨fun x hx => ?_, ih h.2 (fun e he => hn e (by simp [he]))⟩
      have := ((insC_perm l c).map (·.1)).mem_iff.1 hx
      rw [List.map_cons, List.mem_cons] at this
      rcases this with rfl | hx
      · exact hlt
      · exact h.1 x hx
    · rename_i hge
      have hne := hn d (by simp)
      rw [List.map_cons, List.map_cons, List.pairwise_cons, List.pairwise_cons]
      refine ⟨fun x hx => ?_, h⟩
      rw [List.mem_cons] at hx
      rcases hx with rfl | hx
      · omega
      · have := h.1 x hx; omega

theorem good_fin {N : Nat} {s : PSt} {C : List Cel} (h : SGood N s C) {i : Nat} {r : PReg} (hi : s.regs[i]? = some r) (ho : r.op = true) (cu fi : Int) (at_ wd : Nat) (hw1 : 1 ≤ wd) (hw2 : wd ≤ 4097)
    (hpg : ∀ t, (Cel.mk i at_ wd).has t → ((t / 16 : Nat) : Int) ∈ r.pgs) (hap : ∀ d ∈ C, d.apart ⟨i, at_, wd⟩) (hcur : CurOk (C ++ [⟨i, at_, wd⟩]) i { r with cur := cu, fil := fi }) (hN : C.length + 1 ≤ N) :
    SGood N (finS { s with regs := setCur s.regs i cu fi } i at_ wd) (C ++ [⟨i, at_, wd⟩]) := by
  obtain ⟨a, b, hab, rfl⟩ := part_at hi
  have hR : (finS { s with regs := setCur s.regs a.length cu fi } a.length at_ wd).regs = a ++ { r with cur := cu, fil := fi, cls := insCls r.cls ((at_ : Int), (wd : Int)) } :: b := by
    unfold finS setCur
    rw [hab]
    simp only [modify_part]
  generalize hS : finS { s with regs := setCur s.regs a.length cu fi } a.length at_ wd = s' at *
  have hnp : s'.np = s.np := by rw [← hS]; rfl
  have hwt : s'.wait = s.wait := by rw [← hS]; rfl
  have hus : s'.used = s.used := by rw [← hS]; rfl
  have hhe : s'.held = s.held + wd := by rw [← hS]; rfl
  have hlast := hpg (at_ + wd - 1) ⟨by dsimp only; omega, by dsimp only; omega⟩
  have hin := (h.pg_lt hi hlast).2
  have hda : s'.data = zeroAt s.data at_ wd := by rw [← hS]; rfl
  have hdl : s'.data.length = s.data.length := by rw [hda]; exact zeroAt_length (by rw [h.data]; omega)
  have hp : pagesOf s' = pagesOf s := by unfold pagesOf; rw [hR, hab]; simp
  have hget : ∀ (j : Nat) (r' : PReg), s'.regs[j]? = some r' → (j = a.length ∧ r' = { r with cur := cu, fil := fi, cls := insCls r.cls ((at_ : Int), (wd : Int)) }) ∨ (j ≠ a.length ∧ s.regs[j]? = some r') := by
    intro j r' hj
    rw [hR, get_part a b r _ j] at hj
    split at hj
    · exact .inl ⟨by assumption, by cases hj; rfl⟩
    · exact .inr ⟨by assumption, by rw [hab]; exact hj⟩
  have hmem : ∀ r' ∈ s'.regs, r' = { r with cur := cu, fil := fi, cls := insCls r.cls ((at_ : Int), (wd : Int)) } ∨ r' ∈ s.regs := by
    intro r' hr'
    rw [hR] at hr'
    rw [hab]
    exact mem_part hr'
  have hrm : r ∈ s.regs := List.mem_of_getElem? hi
  exact {
    nreg := by rw [hR]; have := h.nreg; rw [hab] at this; simp at this ⊢; omega
    ncel := by simp; omega
    nnp := by rw [hnp]; exact h.nnp
    data := by rw [hdl, hnp]; exact h.data
    perm := by rw [hwt, hp, hnp]; exact h.perm
    rise := by rw [hwt]; exact h.rise
    used := by rw [hus, hp]; exact h.used
    held := by rw [hhe, h.held]; simp [sumWd]
    shut := by
      intro r' hr' ho'
      rcases hmem r' hr' with rfl | hr'
      · exact absurd ho' (by simp [ho])
      · exact h.shut r' hr' ho'
    cls := by
      intro j r' hj
      rcases hget j r' hj with ⟨rfl, rfl⟩ | ⟨hne, hj⟩
      · rw [insCls_eq]
        refine List.Perm.trans (insC_perm _ _) ?_
        have : (C ++ [Cel.mk a.length at_ wd]).filter (fun c => c.reg == a.length) = C.filter (fun c => c.reg == a.length) ++ [Cel.mk a.length at_ wd] := by simp
        rw [this, List.map_append]
        refine List.Perm.trans ?_ List.perm_append_comm
        exact List.Perm.cons _ (h.cls _ r hi)
      · have : (C ++ [Cel.mk a.length at_ wd]).filter (fun c => c.reg == j) = C.filter (fun c => c.reg == j) := by
          simp; omega
        rw [this]
        exact h.cls j r' hj
    up := by
      intro r' hr'
      rcases hmem r' hr' with rfl | hr'
      · dsimp only
        rw [insCls_eq]
        refine insC_up (h.up r hrm) ?_
        intro d hd he
        have h1 := (h.cls _ r hi).mem_iff.1 hd
        obtain ⟨c, hc, rfl⟩ := List.mem_map.1 h1
        obtain ⟨hc1, hc2⟩ := List.mem_filter.1 hc
        obtain ⟨_, _, _, h3, _⟩ := h.cel c hc1
        have := hap c hc1
        unfold Cel.apart at this
        simp only [Cel.pair] at he
        dsimp only at this
        omega
      · exact h.up r' hr'
    cel := by
      intro c hc
      rw [List.mem_append, List.mem_singleton] at hc
      rw [hR, get_part a b r, ← hab]
      rcases hc with hc | rfl
      · obtain ⟨r', hr', h2, h3, h4, h5⟩ := h.cel c hc
        by_cases he : c.reg = a.length
        · rw [if_pos he]
          rw [he, hi] at hr'
          cases hr'
          exact ⟨_, rfl, h2, h3, h4, h5⟩
        · rw [if_neg he]
          exact ⟨r', hr', h2, h3, h4, h5⟩
      · rw [if_pos rfl]
        exact ⟨_, rfl, ho, hw1, hw2, hpg⟩
    apart := by
      rw [List.pairwise_append]
      refine ⟨h.apart, by simp, fun c hc d hd => ?_⟩
      rw [List.mem_singleton] at hd
      subst hd
      exact hap c hc
    cur := by
      intro j r' hj
      rcases hget j r' hj with ⟨rfl, rfl⟩ | ⟨hne, hj⟩
      · exact hcur
      · rcases h.cur j r' hj with h1 | ⟨q, f, h1, h2, h3, h4, h5, h6⟩
        · exact .inl h1
        · refine .inr ⟨q, f, h1, h2, h3, h4, h5, fun c hc he => ?_⟩
          rw [List.mem_append, List.mem_singleton] at hc
          rcases hc with hc | rfl
          · exact h6 c hc he
          · exact absurd he.symm hne }

end Go.Proofs.Ytgejmgomliadmaa
