/- The laws' user as plain data: how many pages her regions take. -/
import Derived.Test.YtgejmgomliadmaaUsG
set_option linter.unusedVariables false
namespace Go.Proofs.Ytgejmgomliadmaa
open Go Go.RowKit

def sumF (f : UC → Nat) (cs : List UC) : Nat := (cs.map f).sum
def smF (i : Nat) (c : UC) : Nat := if c.reg = i ∧ c.fs.length ≤ 16 then c.fs.length else 0
def lgF (i : Nat) (c : UC) : Nat := if c.reg = i ∧ 16 < c.fs.length then (c.fs.length + 15) / 16 else 0
def wdF (i : Nat) (c : UC) : Nat := if c.reg = i then c.fs.length else 0
theorem sumF_cons (f : UC → Nat) (c : UC) (cs : List UC) : sumF f (c :: cs) = f c + sumF f cs := by simp [sumF]
theorem sumF_add (f : UC → Nat) (cs : List UC) (c : UC) : sumF f (cs ++ [c]) = sumF f cs + f c := by simp [sumF]
theorem sumF_filter (f : UC → Nat) (p : UC → Bool) (cs : List UC) (h : ∀ c, p c = false → f c = 0) : sumF f (cs.filter p) = sumF f cs := by
  induction cs with
  | nil => rfl
  | cons c cs ih =>
    cases hp : p c with
    | true => rw [List.filter_cons_of_pos hp, sumF_cons, sumF_cons, ih]
    | false => rw [List.filter_cons_of_neg (by simp [hp]), sumF_cons, ih, h c hp, Nat.zero_add]
theorem sumF_set (f : UC → Nat) (cs : List UC) (k : Nat) (c d : UC) (hk : cs[k]? = some c) (hf : f d = f c) : sumF f (cs.set k d) = sumF f cs := by
  obtain ⟨a, b, rfl, rfl⟩ := part_at hk
  rw [set_part]
  simp [sumF, hf]
theorem sumF_zero (f : UC → Nat) (cs : List UC) (h : ∀ c ∈ cs, f c = 0) : sumF f cs = 0 := by
  induction cs with
  | nil => rfl
  | cons c cs ih => rw [sumF_cons, h c (by simp), ih (fun d hd => h d (by simp [hd]))]
theorem sumF_le (f g : UC → Nat) (cs : List UC) (k : Nat) (h : ∀ c ∈ cs, f c ≤ k * g c) : sumF f cs ≤ k * sumF g cs := by
  induction cs with
  | nil => simp [sumF]
  | cons c cs ih =>
    rw [sumF_cons, sumF_cons, Nat.mul_add]
    have := h c (by simp)
    have := ih (fun d hd => h d (by simp [hd]))
    omega
theorem small_sum (cs : List UC) (i : Nat) : smallTo cs i cs.length = (sumF (smF i) cs : Nat) := by
  unfold smallTo
  rw [List.take_length]
  induction cs with
  | nil => rfl
  | cons c cs ih =>
    rw [sumF_cons]
    by_cases h : c.reg = i ∧ c.fs.length ≤ 16
    · have hp : (decide ((c.reg : Int) = (i : Int)) && decide (c.fs.length ≤ 16)) = true := by simp [h.1, h.2]
      rw [List.filter_cons_of_pos (p := fun c : UC => decide ((c.reg : Int) = (i : Int)) && decide (c.fs.length ≤ 16)) hp, List.map_cons, List.sum_cons, ih]
      simp [smF, h.1, h.2]
    · have hp : (decide ((c.reg : Int) = (i : Int)) && decide (c.fs.length ≤ 16)) = false := by
        rw [Bool.and_eq_false_iff]
        by_cases h1 : c.reg = i
        · exact .inr (decide_eq_false (fun h2 => h ⟨h1, h2⟩))
        · exact .inl (decide_eq_false (by omega))
      rw [List.filter_cons_of_neg (p := fun c : UC => decide ((c.reg : Int) = (i : Int)) && decide (c.fs.length ≤ 16)) (by simp only [hp]; simp), ih, smF, if_neg h, Nat.zero_add]
theorem large_sum (cs : List UC) (i : Nat) : largeTo cs i cs.length = (sumF (lgF i) cs : Nat) := by
  unfold largeTo
  rw [List.take_length]
  induction cs with
  | nil => rfl
  | cons c cs ih =>
    rw [sumF_cons]
    by_cases h : c.reg = i ∧ 16 < c.fs.length
    · have hp : (decide ((c.reg : Int) = (i : Int)) && decide (16 < c.fs.length)) = true := by simp [h.1, h.2]
      rw [List.filter_cons_of_pos (p := fun c : UC => decide ((c.reg : Int) = (i : Int)) && decide (16 < c.fs.length)) hp, List.map_cons, List.sum_cons, ih, lgF, if_pos h]
      omega
    · have hp : (decide ((c.reg : Int) = (i : Int)) && decide (16 < c.fs.length)) = false := by
        rw [Bool.and_eq_false_iff]
        by_cases h1 : c.reg = i
        · exact .inr (decide_eq_false (fun h2 => h ⟨h1, h2⟩))
        · exact .inl (decide_eq_false (by omega))
      rw [List.filter_cons_of_neg (p := fun c : UC => decide ((c.reg : Int) = (i : Int)) && decide (16 < c.fs.length)) (by simp only [hp]; simp), ih, lgF, if_neg h, Nat.zero_add]
theorem any_sum (cs : List UC) (i : Nat) (h1 : ∀ c ∈ cs, 1 ≤ c.fs.length) : anyTo cs i cs.length = decide (1 ≤ sumF (smF i) cs) := by
  unfold anyTo
  rw [List.take_length]
  induction cs with
  | nil => rfl
  | cons c cs ih =>
    rw [sumF_cons, List.any_cons, ih (fun d hd => h1 d (by simp [hd]))]
    have hc := h1 c (by simp)
    by_cases h : c.reg = i ∧ c.fs.length ≤ 16
    · have hp : (decide ((c.reg : Int) = (i : Int)) && decide (c.fs.length ≤ 16)) = true := by simp [h.1, h.2]
      rw [hp, smF, if_pos h, Bool.true_or]
      exact (decide_eq_true (by omega)).symm
    · have hp : (decide ((c.reg : Int) = (i : Int)) && decide (c.fs.length ≤ 16)) = false := by
        rw [Bool.and_eq_false_iff]
        by_cases h1 : c.reg = i
        · exact .inr (decide_eq_false (fun h2 => h ⟨h1, h2⟩))
        · exact .inl (decide_eq_false (by omega))
      rw [hp, smF, if_neg h, Bool.false_or, Nat.zero_add]
theorem roomOf_eq (cs : List UC) (i : Nat) (h1 : ∀ c ∈ cs, 1 ≤ c.fs.length) : roomOf cs i = ((if 1 ≤ sumF (smF i) cs then 2 * sumF (smF i) cs / 16 + 1 + sumF (lgF i) cs else sumF (lgF i) cs : Nat) : Int) := by
  unfold roomOf
  rw [any_sum cs i h1, small_sum, large_sum]
  by_cases h : 1 ≤ sumF (smF i) cs
  · rw [decide_eq_true h, if_pos rfl, if_pos h]; omega
  · rw [decide_eq_false h, if_neg (by simp), if_neg h]

/-- How many pages a region takes, by its cells. -/
def RInv (cs : List UC) (i : Nat) (r : PReg) : Prop :=
  ∃ m : Nat, r.pgs.length = m + sumF (lgF i) cs ∧ ((r.cur < 0 ∧ m = 0 ∧ sumF (smF i) cs = 0) ∨ (0 ≤ r.cur ∧ ∃ f q : Nat, r.fil = f ∧ m = q + 1 ∧ 1 ≤ sumF (smF i) cs ∧ 16 * q + f ≤ 2 * sumF (smF i) cs ∧ sumF (smF i) cs ≤ 16 * q + f ∧ f ≤ 16))
structure RoomInv (S : USt) (most : Int) : Prop where
  reg : ∀ (i : Nat) (r : PReg), S.s.regs[i]? = some r → r.op = true → RInv S.cs i r
  le : S.s.used ≤ most
  np : S.large = false → (S.s.np : Int) = most

theorem room_new : RoomInv ⟨hs0, 0, [], [], false⟩ 0 where
  reg := by simp [hs0]
  le := by simp [hs0]
  np := by simp [hs0]

theorem RInv.eq_of {cs cs' : List UC} {i : Nat} {r r' : PReg} (h : RInv cs i r) (h1 : sumF (lgF i) cs' = sumF (lgF i) cs) (h2 : sumF (smF i) cs' = sumF (smF i) cs) (hp : r'.pgs = r.pgs) (hc : r'.cur = r.cur) (hf : r'.fil = r.fil) : RInv cs' i r' := by
  unfold RInv at h ⊢
  rw [h1, h2, hp, hc, hf]
  exact h

/-- What taking pages does to how many there are. -/
theorem take_np {N : Nat} {s : PSt} {C : List Cel} (h : SGood N s C) (i : Nat) : (takeS s i 1).2.np = s.np ∧ s.used + 1 ≤ s.np ∨ (takeS s i 1).2.np = s.np + 1 ∧ s.used = s.np := by
  have hl := h.len
  have hu := h.used
  cases hk : runK s.wait 1 with
  | some k =>
    have := (runK_some (.inr (by omega)) hk).1
    left
    simp only [takeS, hk, true_and]
    omega
  | none =>
    have h0 := runK_none hk
    right
    simp only [takeS, hk, true_and]
    have : s.wait.length = 0 := by
      by_cases h1 : s.wait.length = 0
      · exact h1
      · have := h0 0 (by omega)
        simp [runAt] at this
    omega

theorem other_reg {i : Nat} {cs : List UC} {c : UC} {j : Nat} (hij : c.reg ≠ j) : sumF (lgF j) (cs ++ [c]) = sumF (lgF j) cs ∧ sumF (smF j) (cs ++ [c]) = sumF (smF j) cs := by
  rw [sumF_add, sumF_add]
  constructor
  · rw [lgF, if_neg (fun h => hij h.1)]; rfl
  · rw [smF, if_neg (fun h => hij h.1)]; rfl

theorem room_move {N : Nat} {S S' : USt} {most : Int} (hI : UInv N S) (hN : N + 1 ≤ 200) (h : RoomInv S most) (hm : UMove S S') : RoomInv S' (max most S'.s.used) := by
  have hG := hI.good
  have hul : S.s.used ≤ S.s.np := by have := hG.len; have := hG.used; omega
  cases hm with
  | opn =>
    refine ⟨?_, by dsimp only; omega, fun hl => by have := h.np hl; dsimp only; omega⟩
    intro i r hi ho
    dsimp only at hi ⊢
    by_cases h1 : i < S.s.regs.length
    · rw [List.getElem?_append_left h1] at hi
      exact h.reg i r hi ho
    · have h2 := (List.getElem?_eq_some_iff.1 hi).1
      have h3 : i = S.s.regs.length := by simp at h2; omega
      subst h3
      rw [List.getElem?_append_right (by omega)] at hi
      simp at hi
      subst hi
      have hz : ∀ c ∈ S.cs, c.reg ≠ S.s.regs.length := by
        intro c hc
        obtain ⟨r, hr, _⟩ := hG.cel c.cel (List.mem_map.2 ⟨c, hc, rfl⟩)
        have := (List.getElem?_eq_some_iff.1 hr).1
        exact Nat.ne_of_lt this
      refine ⟨0, ?_, .inl ⟨by simp [PReg.new], rfl, ?_⟩⟩
      · rw [sumF_zero _ _ (fun c hc => by rw [lgF, if_neg (fun h => hz c hc h.1)])]; rfl
      · exact sumF_zero _ _ (fun c hc => by rw [smF, if_neg (fun h => hz c hc h.1)])
  | cls k i r hk hi ho =>
    refine ⟨?_, by dsimp only; omega, fun hl => ?_⟩
    · intro j r' hj ho'
      dsimp only [closeS] at hj ⊢
      rw [List.getElem?_set] at hj
      by_cases he : i = j
      · rw [if_pos he] at hj
        split at hj
        · cases hj; simp [PReg.none] at ho'
        · cases hj
      · rw [if_neg he] at hj
        refine (h.reg j r' hj ho').eq_of ?_ ?_ rfl rfl rfl
        · exact sumF_filter _ _ _ (fun c hc => by rw [lgF, if_neg (fun h1 => he (by have : c.reg = i := by simpa using hc
                                                                                    omega))])
        · exact sumF_filter _ _ _ (fun c hc => by rw [smF, if_neg (fun h1 => he (by have : c.reg = i := by simpa using hc
                                                                                    omega))])
    · have h1 := h.np hl
      have h2 := h.le
      dsimp only [closeS]
      omega
  | alc i wd g r hi ho h1 h2 =>
    have hc := hG.cur i r hi
    obtain ⟨m, hm1, hm2⟩ := h.reg i r hi ho
    have hcs : ∀ j : Nat, sumF (lgF j) (S.cs ++ [⟨i, (allocP S.s i wd r).1, g, List.replicate wd 0⟩]) = sumF (lgF j) S.cs + (if i = j ∧ 16 < wd then (wd + 15) / 16 else 0) ∧ sumF (smF j) (S.cs ++ [⟨i, (allocP S.s i wd r).1, g, List.replicate wd 0⟩]) = sumF (smF j) S.cs + (if i = j ∧ wd ≤ 16 then wd else 0) := by
      intro j
      rw [sumF_add, sumF_add]
      simp [lgF, smF]
    generalize hcs' : S.cs ++ [(⟨i, (allocP S.s i wd r).1, g, List.replicate wd 0⟩ : UC)] = cs' at hcs
    dsimp only
    have hoth : ∀ (s' : PSt), (∀ j, j ≠ i → s'.regs[j]? = S.s.regs[j]?) → (∀ r', s'.regs[i]? = some r' → RInv cs' i r') → ∀ (j : Nat) (r' : PReg), s'.regs[j]? = some r' → r'.op = true → RInv cs' j r' := by
      intro s' ha hb j r' hj hop
      by_cases he : j = i
      · subst he; exact hb r' hj
      · rw [ha j he] at hj
        obtain ⟨e1, e2⟩ := hcs j
        refine (h.reg j r' hj hop).eq_of ?_ ?_ rfl rfl rfl
        · rw [e1, if_neg (fun h => he h.1.symm)]; rfl
        · rw [e2, if_neg (fun h => he h.1.symm)]; rfl
    have hmodo : ∀ (l : List PReg) (f : PReg → PReg) (j : Nat), j ≠ i → (l.modify i f)[j]? = l[j]? := by
      intro l f j hj
      have hij : ¬ i = j := fun h => hj h.symm
      rw [List.getElem?_modify]
      simp [hij]
    have hmodi : ∀ (l : List PReg) (f : PReg → PReg), (l.modify i f)[i]? = l[i]?.map f := by
      intro l f
      rw [List.getElem?_modify]
      simp
    obtain ⟨e1, e2⟩ := hcs i
    unfold allocP
    by_cases hw : 16 < wd
    · rw [if_pos hw]
      obtain ⟨_, first, hT⟩ := good_take hG hi ho (many := (wd + 15) / 16) (by omega) (by omega)
      rw [if_pos ⟨rfl, hw⟩] at e1
      rw [if_neg (fun h => by omega)] at e2
      have hbig : (S.large || decide (16 < wd)) = true := by simp [hw]
      refine ⟨hoth _ (fun j hj => ?_) (fun r' hr' => ?_), ?_, fun hl => by rw [hbig] at hl; cases hl⟩
      · dsimp only [finS]
        rw [hmodo _ _ _ hj, hT.other j hj]
      · dsimp only [finS] at hr'
        rw [hmodi, hT.reg] at hr'
        simp only [Option.map_some, Option.some.injEq] at hr'
        subst hr'
        refine ⟨m, ?_, ?_⟩
        · dsimp only
          rw [List.length_append, upTo_length, e1, hm1]; omega
        · dsimp only
          rw [e2]
          exact hm2
      · dsimp only [finS]
        omega
    · rw [if_neg hw]
      rw [if_neg (fun h => hw h.2)] at e1
      rw [if_pos ⟨rfl, by omega⟩] at e2
      by_cases hf : 0 ≤ r.cur ∧ r.fil + wd ≤ 16
      · rw [if_pos hf]
        refine ⟨hoth _ (fun j hj => ?_) (fun r' hr' => ?_), ?_, fun hl => ?_⟩
        · dsimp only [finS, setFil]
          rw [hmodo _ _ _ hj, hmodo _ _ _ hj]
        · dsimp only [finS, setFil] at hr'
          rw [hmodi, hmodi, hi] at hr'
          simp only [Option.map_some, Option.some.injEq] at hr'
          subst hr'
          refine ⟨m, ?_, ?_⟩
          · dsimp only
            rw [e1, hm1]; omega
          · dsimp only
            rw [e2]
            rcases hm2 with ⟨q1, _⟩ | ⟨q1, f, q, q2, q3, q4, q5, q6, q7⟩
            · omega
            · exact .inr ⟨q1, f + wd, q, by omega, q3, by omega, by omega, by omega, by omega⟩
        · dsimp only [finS]
          omega
        · have hl1 : S.large = false := by revert hl; cases S.large <;> simp
          have h1 := h.np hl1
          have h2 := h.le
          dsimp only [finS]
          omega
      · rw [if_neg hf]
        obtain ⟨_, first, hT⟩ := good_take hG hi ho (many := 1) (by omega) (by omega)
        refine ⟨hoth _ (fun j hj => ?_) (fun r' hr' => ?_), ?_, fun hl => ?_⟩
        · dsimp only [finS, setCur]
          rw [hmodo _ _ _ hj, hmodo _ _ _ hj, hT.other j hj]
        · dsimp only [finS, setCur] at hr'
          rw [hmodi, hmodi, hT.reg] at hr'
          simp only [Option.map_some, Option.some.injEq] at hr'
          subst hr'
          refine ⟨m + 1, ?_, ?_⟩
          · dsimp only
            rw [List.length_append, upTo_length, e1, hm1]; omega
          · dsimp only
            rw [e2, hT.fst]
            refine .inr ⟨by omega, wd, m, rfl, rfl, by omega, ?_, ?_, by omega⟩
            · rcases hm2 with ⟨q1, q2, q3⟩ | ⟨q1, f, q, q2, q3, q4, q5, q6, q7⟩ <;> omega
            · rcases hm2 with ⟨q1, q2, q3⟩ | ⟨q1, f, q, q2, q3, q4, q5, q6, q7⟩ <;> omega
        · dsimp only [finS]
          omega
        · have hl1 : S.large = false := by revert hl; cases S.large <;> simp
          have h1 := h.np hl1
          have h2 := h.le
          have h3 := hT.used
          dsimp only [finS]
          rw [h3]
          rcases take_np hG i with ⟨h4, h5⟩ | ⟨h4, h5⟩ <;> rw [h4] <;> omega
  | set k f c v hk hf =>
    refine ⟨?_, by dsimp only; omega, fun hl => by have := h.np hl; dsimp only; omega⟩
    intro i r hi ho
    refine (h.reg i r hi ho).eq_of ?_ ?_ rfl rfl rfl
    · exact sumF_set _ _ _ _ _ hk (by simp [lgF])
    · exact sumF_set _ _ _ _ _ hk (by simp [smF])
  | same => exact ⟨h.reg, by omega, fun hl => by have := h.np hl; omega⟩

/-! ### sums over the open regions -/
theorem perm_sum {l m : List Nat} (h : l.Perm m) : l.sum = m.sum := by
  induction h with
  | nil => rfl
  | cons x _ ih => simp [ih]
  | swap x y l => simp; omega
  | trans _ _ h1 h2 => exact h1.trans h2
theorem sum_filter0 (l : List Nat) (p : Nat → Bool) (g : Nat → Nat) (h : ∀ j ∈ l, p j = false → g j = 0) : ((l.filter p).map g).sum = (l.map g).sum := by
  induction l with
  | nil => rfl
  | cons j l ih =>
    have ih := ih (fun k hk => h k (by simp [hk]))
    cases hp : p j with
    | true => rw [List.filter_cons_of_pos hp, List.map_cons, List.map_cons, List.sum_cons, List.sum_cons, ih]
    | false => rw [List.filter_cons_of_neg (by simp [hp]), List.map_cons, List.sum_cons, ih, h j (by simp) hp, Nat.zero_add]
theorem opn_sum {N : Nat} {S : USt} (hI : UInv N S) (g : Nat → Nat) (hg : ∀ (j : Nat) (r : PReg), S.s.regs[j]? = some r → r.op = false → g j = 0) : (S.opn.map (fun x => g x.toNat)).sum = ((List.range S.s.regs.length).map g).sum := by
  have hp : (S.opn.map Int.toNat).Perm ((List.range S.s.regs.length).filter (fun j => (S.s.regs.getD j PReg.none).op)) := by
    rw [List.perm_ext_iff_of_nodup]
    · intro j
      simp only [List.mem_map, List.mem_filter, List.mem_range]
      constructor
      · rintro ⟨x, hx, rfl⟩
        obtain ⟨i, r, rfl, hi, ho⟩ := hI.opn x hx
        have e : ((i : Nat) : Int).toNat = i := by omega
        rw [e]
        refine ⟨(List.getElem?_eq_some_iff.1 hi).1, ?_⟩
        rw [List.getD_eq_getElem?_getD, hi]
        exact ho
      · rintro ⟨hj, ho⟩
        rw [List.getD_eq_getElem?_getD, List.getElem?_eq_getElem hj] at ho
        exact ⟨j, hI.all j _ (List.getElem?_eq_getElem hj) ho, by omega⟩
    · unfold List.Nodup
      rw [List.pairwise_map]
      refine List.Pairwise.imp_of_mem ?_ hI.nd
      intro x y hx hy hxy he
      obtain ⟨i, _, rfl, _⟩ := hI.opn x hx
      obtain ⟨j, _, rfl, _⟩ := hI.opn y hy
      exact hxy (by omega)
    · exact List.Pairwise.filter _ List.nodup_range
  have h1 : (S.opn.map (fun x => g x.toNat)) = (S.opn.map Int.toNat).map g := by rw [List.map_map]; rfl
  rw [h1, perm_sum (hp.map g)]
  refine sum_filter0 _ _ _ ?_
  intro j hj ho
  rw [List.mem_range] at hj
  rw [List.getD_eq_getElem?_getD, List.getElem?_eq_getElem hj] at ho
  exact hg j _ (List.getElem?_eq_getElem hj) ho
theorem regs_sum (regs : List PReg) : (regs.flatMap PReg.pgs).length = ((List.range regs.length).map (fun j => (regs.getD j PReg.none).pgs.length)).sum := by
  rw [List.length_flatMap]
  congr 1
  refine List.ext_getElem (by simp) (fun j h1 h2 => ?_)
  simp at h1
  simp [h1]
theorem sum_le_map {l : List Int} {f g : Int → Nat} (h : ∀ x ∈ l, f x ≤ g x) : (l.map f).sum ≤ (l.map g).sum := by
  induction l with
  | nil => simp
  | cons x l ih =>
    rw [List.map_cons, List.map_cons, List.sum_cons, List.sum_cons]
    have := h x (by simp)
    have := ih (fun y hy => h y (by simp [hy]))
    omega
theorem reg_once (k n : Nat) (v : Nat) (h : k < n) : ((List.range n).map (fun j => if k = j then v else 0)).sum = v := by
  induction n with
  | zero => omega
  | succ n ih =>
    rw [List.range_succ, List.map_append, List.sum_append]
    by_cases hk : k = n
    · subst hk
      have : ((List.range k).map (fun j => if k = j then v else 0)).sum = 0 := by
        have : ∀ m, m ≤ k → ((List.range m).map (fun j => if k = j then v else 0)).sum = 0 := by
          intro m
          induction m with
          | zero => intro _; rfl
          | succ m ih2 =>
            intro hm
            rw [List.range_succ, List.map_append, List.sum_append, ih2 (by omega)]
            simp; omega
        exact this k (Nat.le_refl _)
      rw [this]; simp
    · rw [ih (by omega)]; simp [hk]
theorem words_once (cs : List UC) (n : Nat) (h : ∀ c ∈ cs, c.reg < n) : ((List.range n).map (fun j => sumF (wdF j) cs)).sum = sumF (fun c => c.fs.length) cs := by
  induction cs with
  | nil =>
    have : (fun j => sumF (wdF j) []) = fun _ => 0 := by funext j; rfl
    rw [this]
    have : ∀ l : List Nat, (l.map (fun _ => 0)).sum = 0 := by
      intro l
      induction l with
      | nil => rfl
      | cons x l ih => rw [List.map_cons, List.sum_cons, ih]
    exact this _
  | cons c cs ih =>
    rw [sumF_cons, ← ih (fun d hd => h d (by simp [hd])), ← reg_once c.reg n c.fs.length (h c (by simp))]
    generalize List.range n = l
    induction l with
    | nil => rfl
    | cons j l ih2 =>
      rw [List.map_cons, List.map_cons, List.map_cons, List.sum_cons, List.sum_cons, List.sum_cons, ih2, sumF_cons]
      have : wdF j c = if c.reg = j then c.fs.length else 0 := rfl
      omega
theorem sumWd_C (cs : List UC) : sumWd (cs.map UC.cel) = sumF (fun c => c.fs.length) cs := by
  unfold sumWd sumF
  rw [List.map_map]
  rfl

/-- The sum of what her regions may take, as the law reckons it. -/
def roomSum (S : USt) (j : Nat) : Int := ((S.opn.take j).map (roomOf S.cs)).sum
theorem roomSum_succ {S : USt} {j : Nat} {x : Int} (h : S.opn[j]? = some x) : roomSum S (j + 1) = roomSum S j + roomOf S.cs x := by
  unfold roomSum
  rw [List.take_add_one, h, Option.toList_some, List.map_append, List.sum_append]
  simp
theorem sum_cast (l : List Int) (f : Int → Int) (g : Int → Nat) (h : ∀ x ∈ l, f x = g x) : (l.map f).sum = ((l.map g).sum : Nat) := by
  induction l with
  | nil => rfl
  | cons x l ih =>
    rw [List.map_cons, List.map_cons, List.sum_cons, List.sum_cons, ih (fun y hy => h y (by simp [hy])), h x (by simp)]
    omega

theorem UInv.pos {N : Nat} {S : USt} (hI : UInv N S) : ∀ c ∈ S.cs, 1 ≤ c.fs.length := by
  intro c hc
  obtain ⟨_, _, _, h, _⟩ := hI.good.cel c.cel (List.mem_map.2 ⟨c, hc, rfl⟩)
  exact h
theorem RInv.le {cs : List UC} {i : Nat} {r : PReg} (h : RInv cs i r) (h1 : ∀ c ∈ cs, 1 ≤ c.fs.length) : r.pgs.length ≤ (if 1 ≤ sumF (smF i) cs then 2 * sumF (smF i) cs / 16 + 1 + sumF (lgF i) cs else sumF (lgF i) cs) ∧ sumF (wdF i) cs ≤ 16 * r.pgs.length := by
  obtain ⟨m, hm1, hm2⟩ := h
  have hw : sumF (wdF i) cs ≤ sumF (smF i) cs + 16 * sumF (lgF i) cs := by
    clear h1 hm1 hm2
    induction cs with
    | nil => simp [sumF]
    | cons c cs ih =>
      rw [sumF_cons, sumF_cons, sumF_cons]
      have : wdF i c ≤ smF i c + 16 * lgF i c := by
        unfold wdF smF lgF
        by_cases h1 : c.reg = i
        · by_cases h2 : c.fs.length ≤ 16
          · rw [if_pos h1, if_pos ⟨h1, h2⟩]; omega
          · rw [if_pos h1, if_neg (fun h => h2 h.2), if_pos ⟨h1, by omega⟩]; omega
        · rw [if_neg h1]; omega
      omega
  rcases hm2 with ⟨q1, q2, q3⟩ | ⟨q1, f, q, q2, q3, q4, q5, q6, q7⟩
  · rw [if_neg (by omega)]; omega
  · rw [if_pos q4]; omega

/-- What StoreRoom asks. -/
theorem room_holds {N : Nat} {S : USt} {most : Int} (hI : UInv N S) (h : RoomInv S most) : S.s.used ≤ roomSum S S.opn.length ∧ S.s.held ≤ S.s.used * 16 ∧ (S.large = false → S.s.used + S.s.wait.length = most) := by
  have hG := hI.good
  have hpos := hI.pos
  have hclosed : ∀ (j : Nat) (r : PReg), S.s.regs[j]? = some r → r.op = false → r = PReg.none := fun j r hj ho => hG.shut r (List.mem_of_getElem? hj) ho
  have hused : S.s.used = ((S.opn.map (fun x => (S.s.regs.getD x.toNat PReg.none).pgs.length)).sum : Nat) := by
    rw [hG.used, pagesOf, regs_sum, ← opn_sum hI]
    intro j r hj ho
    rw [List.getD_eq_getElem?_getD, hj, hclosed j r hj ho]
    rfl
  have hreg : ∀ x ∈ S.opn, ∃ (i : Nat) (r : PReg), x = i ∧ S.s.regs.getD x.toNat PReg.none = r ∧ RInv S.cs i r := by
    intro x hx
    obtain ⟨i, r, rfl, hi, ho⟩ := hI.opn x hx
    refine ⟨i, r, rfl, ?_, h.reg i r hi ho⟩
    have e : ((i : Nat) : Int).toNat = i := by omega
    rw [e, List.getD_eq_getElem?_getD, hi]; rfl
  refine ⟨?_, ?_, ?_⟩
  · unfold roomSum
    rw [List.take_length, hused, sum_cast S.opn (roomOf S.cs) (fun x => if 1 ≤ sumF (smF x.toNat) S.cs then 2 * sumF (smF x.toNat) S.cs / 16 + 1 + sumF (lgF x.toNat) S.cs else sumF (lgF x.toNat) S.cs)]
    · have := sum_le_map (l := S.opn) (f := fun x => (S.s.regs.getD x.toNat PReg.none).pgs.length) (g := fun x => if 1 ≤ sumF (smF x.toNat) S.cs then 2 * sumF (smF x.toNat) S.cs / 16 + 1 + sumF (lgF x.toNat) S.cs else sumF (lgF x.toNat) S.cs) (by
        intro x hx
        obtain ⟨i, r, rfl, hr, hR⟩ := hreg x hx
        have e : ((i : Nat) : Int).toNat = i := by omega
        rw [hr, e]
        exact (hR.le hpos).1)
      omega
    · intro x hx
      obtain ⟨i, r, rfl, hr, hR⟩ := hreg x hx
      have e : ((i : Nat) : Int).toNat = i := by omega
      rw [roomOf_eq S.cs i hpos, e]
  · have hheld : S.s.held = ((S.opn.map (fun x => sumF (wdF x.toNat) S.cs)).sum : Nat) := by
      rw [hG.held, USt.C, sumWd_C, ← words_once S.cs S.s.regs.length, ← opn_sum hI]
      · intro j r hj ho
        refine sumF_zero _ _ (fun c hc => ?_)
        obtain ⟨r', hr', ho', _⟩ := hG.cel c.cel (List.mem_map.2 ⟨c, hc, rfl⟩)
        have hr' : S.s.regs[c.reg]? = some r' := hr'
        rw [wdF, if_neg]
        intro he
        rw [he, hj] at hr'
        cases hr'
        rw [ho] at ho'; cases ho'
      · intro c hc
        obtain ⟨r', hr', _⟩ := hG.cel c.cel (List.mem_map.2 ⟨c, hc, rfl⟩)
        exact (List.getElem?_eq_some_iff.1 hr').1
    rw [hheld, hused]
    have h16 : ((S.opn.map (fun x => (S.s.regs.getD x.toNat PReg.none).pgs.length)).sum : Nat) * 16 = (S.opn.map (fun x => 16 * (S.s.regs.getD x.toNat PReg.none).pgs.length)).sum := by
      generalize S.opn = l
      induction l with
      | nil => rfl
      | cons x l ih => rw [List.map_cons, List.map_cons, List.sum_cons, List.sum_cons, Nat.add_mul, ih]; omega
    have := sum_le_map (l := S.opn) (f := fun x => sumF (wdF x.toNat) S.cs) (g := fun x => 16 * (S.s.regs.getD x.toNat PReg.none).pgs.length) (by
      intro x hx
      obtain ⟨i, r, rfl, hr, hR⟩ := hreg x hx
      have e : ((i : Nat) : Int).toNat = i := by omega
      rw [hr, e]
      exact (hR.le hpos).2)
    omega
  · intro hl
    rw [← h.np hl, hG.used]
    have := hG.len
    omega

end Go.Proofs.Ytgejmgomliadmaa
