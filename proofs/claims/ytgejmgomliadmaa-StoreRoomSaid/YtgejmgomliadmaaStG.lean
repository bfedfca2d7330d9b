/- The store in memory: take. -/
import Derived.Test.YtgejmgomliadmaaStF
set_option linter.unusedVariables false
namespace Go.Proofs.Ytgejmgomliadmaa
open Go Go.RowKit

def runK (l : List Int) (many : Nat) : Option Nat := (List.range (l.length + 1 - many)).find? (runAt l many)
theorem runF_eq (l : List Int) (many : Nat) : runF l many = match runK l many with | some k => l.getD k 0 | none => -1 := rfl
theorem runK_some {l : List Int} {many k : Nat} (hm : many ≤ l.length ∨ 0 < many) (h : runK l many = some k) : k + many ≤ l.length ∧ runAt l many k = true ∧ ∀ j, j < k → runAt l many j = false := by
  rw [runK, List.find?_range_eq_some] at h
  obtain ⟨h1, h2, h3⟩ := h
  have h2' := List.mem_range.1 h2
  exact ⟨by omega, h1, fun j hj => by simpa using h3 j hj⟩
theorem runK_none {l : List Int} {many : Nat} (h : runK l many = none) : ∀ j, j + many ≤ l.length → runAt l many j = false := by
  rw [runK, List.find?_eq_none] at h
  intro j hj
  simpa using h j (List.mem_range.2 (by omega))
def upTo (first : Int) (d : Nat) : List Int := (List.range d).map fun (j : Nat) => first + j
theorem upTo_succ (first : Int) (d : Nat) : upTo first (d + 1) = upTo first d ++ [first + d] := by simp [upTo, List.range_succ]
theorem upTo_length (first : Int) (d : Nat) : (upTo first d).length = d := by simp [upTo]
def addPgs (regs : List PReg) (i : Nat) (first : Int) (many : Nat) : List PReg := regs.modify i fun r => { r with pgs := r.pgs ++ upTo first many }
def takeS (s : PSt) (i many : Nat) : Int × PSt :=
  match runK s.wait many with
  | some k => (s.wait.getD k 0, { s with wait := s.wait.take k ++ s.wait.drop (k + many), regs := addPgs s.regs i (s.wait.getD k 0) many, used := s.used + many })
  | none => (s.np, { s with np := s.np + many, data := s.data ++ List.replicate (many * 16) 0, regs := addPgs s.regs i s.np many, used := s.used + many })

theorem info75 : (Try.prog.info? 75).map (fun i => (i.zero, i.size, i.bytes)) = some (some (.agg (Array.replicate 16 (.int .i64 0))), 16, 128) := by kernel_rfl
theorem info3 : (Try.prog.info? 3).map (fun i => (i.zero, i.size, i.bytes)) = some (some (.int .i64 0), 1, 8) := by kernel_rfl
theorem info3s : (Try.prog.info? 3).map (·.size) = some 1 := by kernel_rfl

structure Fine (s : PSt) : Prop where
  nregs : s.regs.length ≤ 1000
  np : s.np ≤ 200000
  wait : Small s.wait
  rise : Rising s.wait
  nwait : s.wait.length ≤ 200000
  pgs : ∀ r ∈ s.regs, r.pgs.length ≤ 200000
  cls : ∀ r ∈ s.regs, r.cls.length ≤ 1000
  used : 0 ≤ s.used ∧ s.used ≤ 200000
  held : 0 ≤ s.held ∧ s.held ≤ 10000000

/-- The same with the regions' slice told. -/
def RepV (w : World) (ρ : Ghost) (a : Nat) (s : PSt) (vr : Value) : Prop := ∃ vp vw css, RepAt w ρ a s vr vp vw css
def TakePost (ρ : Ghost) (a : Nat) (s : PSt) (vr : Value) (i many : Nat) (w : World) (e : Ending) (w' : World) : Prop :=
  ∃ ρ', e = .returned (.int .i64 (takeS s i many).1) ∧ RepV w' ρ' a (takeS s i many).2 vr ∧ Step STag w ρ w' ρ'
/-- What the loop of take may touch, and what take may touch. -/
def LoopT (i : Nat) (t : Tag) : Prop := t = (5, i) ∨ t = (2, 0)
def TakeT (i : Nat) (t : Tag) : Prop := t = (1, 0) ∨ t = (2, 0) ∨ t = (3, 0) ∨ t = (4, 0) ∨ t = (5, i)
theorem loopT_takeT (i : Nat) : ∀ t, LoopT i t → TakeT i t := by rintro t (rfl | rfl) <;> simp [TakeT]
theorem takeT_stag (i : Nat) : ∀ t, TakeT i t → STag t := by rintro t (rfl | rfl | rfl | rfl | rfl) <;> simp [STag]

theorem List.set_eq_of_get {α : Type} {l : List α} {k : Nat} {x : α} (h : l[k]? = some x) : l.set k x = l := by
  obtain ⟨hk, rfl⟩ := List.getElem?_eq_some_iff.1 h
  exact List.set_getElem_self hk
theorem addPgs_get (regs : List PReg) (i : Nat) (f : Int) (many j : Nat) : (addPgs regs i f many)[j]? = if i = j then regs[j]?.map (fun r => { r with pgs := r.pgs ++ upTo f many }) else regs[j]? := by
  rw [addPgs, List.getElem?_modify]
  split <;> rename_i h
  · simp
  · cases regs[j]? <;> rfl

/-- The store behind take, out of its pieces. -/
theorem take_core {w W : World} {ρ ρr : Ghost} {a g c i : Nat} {s : PSt} {r : PReg} {vr vp vw vrp vrc vq vp2 vw2 : Value} {css : List (List Value)} {LR : List Value} {fst : Int} {many : Nat} {used held : Int}
    (H : RepAt w ρ a s vr vp vw css) (hi : s.regs[i]? = some r) (hv : vr = .slice (some ⟨g, 0, none⟩) s.regs.length c)
    (hLR : LR.take (s.regs.length * 5) = css.flatten ∧ s.regs.length ≤ c ∧ c ≤ maxLen ∧ c * 5 ≤ LR.length) (hget : LR[i * 5 + 1]? = some vrp)
    (hcs : css[i]? = some [.bool r.op, vrp, vrc, .int .i64 r.cur, .int .i64 r.fil]) (hrc : OwnSl w ρ (6, i) 63 2 vrc r.cls.length (pairs r.cls))
    (hS : Step (TakeT i) w ρ W ρr) (hbA : Blk (W.setCell ⟨a, 5, none⟩ (.int .i64 used)) a 55 [.bool true, vr, vp2, vw2, .int .i64 held, .int .i64 used]) (hta : ρr a = some (1, 0))
    (hbq : Blk (W.setCell ⟨a, 5, none⟩ (.int .i64 used)) g 58 (LR.set (i * 5 + 1) vq)) (htg : ρr g = some (2, 0))
    (hOq : OwnSl (W.setCell ⟨a, 5, none⟩ (.int .i64 used)) ρr (5, i) 3 1 vq (r.pgs ++ upTo fst many).length (ints (r.pgs ++ upTo fst many))) (np : Nat) (data wait : List Int)
    (hpg : OwnSl (W.setCell ⟨a, 5, none⟩ (.int .i64 used)) ρr (3, 0) 75 16 vp2 np (ints data)) (hwt : OwnSl (W.setCell ⟨a, 5, none⟩ (.int .i64 used)) ρr (4, 0) 3 1 vw2 wait.length (ints wait)) :
    RepV (W.setCell ⟨a, 5, none⟩ (.int .i64 used)) ρr a ⟨addPgs s.regs i fst many, np, data, wait, held, used⟩ vr := by
  have hlt : i < s.regs.length := (List.getElem?_eq_some_iff.1 hi).1
  have h5 := H.five
  have hll : i * 5 + 1 < s.regs.length * 5 := by omega
  refine ⟨vp2, vw2, css.set i [.bool r.op, vq, vrc, .int .i64 r.cur, .int .i64 r.fil], hbA, hta, ?_, hpg, hwt, by simp [addPgs, H.rows], ?_⟩
  · rw [hv]
    simp only [addPgs, List.length_modify]
    refine OwnSl.mk htg hbq hLR.2.1 hLR.2.2.1 (by simpa using hLR.2.2.2) ?_
    rw [List.take_set, hLR.1, flatten_set css h5 i 1 _ _ hcs (by omega)]
    rfl
  · intro j r' cs h1 h2
    simp only [addPgs_get] at h1
    rw [List.getElem?_set] at h2
    by_cases hij : i = j
    · subst hij
      rw [hi] at h1
      rw [if_pos rfl, if_pos (by rw [H.rows]; exact hlt)] at h2
      simp at h1 h2
      subst h1; subst h2
      exact ⟨vq, vrc, rfl, hOq, (hrc.step hS (by simp [TakeT])).set_ne _ (by rw [hta]; simp)⟩
    · rw [if_neg hij] at h1 h2
      exact ((H.row j r' cs h1 h2).step hS (by simp [TakeT]; omega) (by simp [TakeT])).set_ne hta (by simp) (by simp)

theorem zeros75 (many : Nat) : (Builtin.zeroCells (Value.agg (Array.replicate 16 (Value.int IntKind.i64 0))).cells many).toList = ints (List.replicate (many * 16) 0) := by
  have hc : (Value.agg (Array.replicate 16 (Value.int IntKind.i64 0))).cells = Array.replicate 16 (Value.int IntKind.i64 0) := rfl
  rw [hc]
  apply List.ext_getElem
  · simp [size_zeroCells, ints]
  · intro k h1 h2
    have hk : k % 16 < 16 := Nat.mod_lt _ (by omega)
    simp [Builtin.zeroCells, ints, hk]

set_option maxRecDepth 100000 in
set_option maxHeartbeats 1000000 in
theorem take_fresh (w : World) (ρ : Ghost) (a : Nat) (s : PSt) (vr vp vw : Value) (css : List (List Value)) (H : RepAt w ρ a s vr vp vw css) (hF : Fine s) (i : Nat) (r : PReg) (hi : s.regs[i]? = some r) (g c : Nat) (hv : vr = .slice (some ⟨g, 0, none⟩) s.regs.length c) (many : Nat) (hm1 : 1 ≤ many) (hm2 : many ≤ 300) (hk : runK s.wait many = none) :
    Calls Try.prog 34 #[.pointer (some ⟨a, 0, none⟩), .pointer (some ⟨g, i * 5, none⟩), .int .i64 many] w (TakePost ρ a s vr i many w) := by
    have hrun := run_any w ρ a s ⟨vr, vp, vw, css, H⟩ many hm1 (by omega) hF.wait (by have := hF.nwait; omega)
    rw [runF_eq, hk] at hrun
    dsimp only at hrun
    have HRUN := Hd.mk hrun
    have HK := Hd.mk hk
    clear hrun hk
    go_enter Try.func34, Try.ntmps34
    go_wp2_with fail
    refine HRUN.out.mono ?_
    rintro e w1 ⟨nq, rfl, rfl⟩
    have hb := H.blk.drewN nq
    have hc2 := hb.cell (i := 2) rfl
    obtain ⟨A, cp, rfl, hpc1, hpc2⟩ := H.pages.form
    have hnp := hF.np
    have hOp := H.pages.drewN nq
    go_wp2_with (at_builtin; refine wpList_append_zerosS rfl _ _ _ _ rfl 75 _ 16 128 Try.underlying53 Try.underlying3 info75 rfl (by decide) (by decide) ρ (3, 0) _ s.np _ rfl hOp .i64 _ many rfl rfl ?z1 (by omega) ?z2)
    case z1 => exact zeroCells_one _ _ (by intro u hu; simp [Value.cells] at hu; obtain ⟨_, rfl⟩ := hu; rfl)
    case z2 =>
    intro v1 w2 ρ2 hO2 hS2 _
    obtain ⟨g2, c2, rfl, hg2, l2, m2, _, _, hgl2⟩ := hO2.some (by omega)
    have hb2 := hS2.blk' hb H.tag (by simp)
    have ht2 := hS2.tag hb.lt H.tag
    have k0 := hb2.cell (i := 2) rfl
    have k1 := hb2.free 2
    obtain ⟨_, _, vrp, vrc, hv', _, _, hgt, hgl, hcsi, hOrp, hOrc, _⟩ := H.reg hi
    rw [hv] at hv'
    cases hv'
    obtain ⟨g', c', LR, hv', hgt', hbR, hR1, hR2, hR3, hR4⟩ := H.regs.opn (by have := (List.getElem?_eq_some_iff.1 hi).1; omega)
    rw [hv] at hv'
    cases hv'
    have hne : a ≠ g := by rintro rfl; have := H.tag; rw [hgt] at this; cases this
    have hlt : i < s.regs.length := (List.getElem?_eq_some_iff.1 hi).1
    have HLR : Hd (LR[i * 5 + 1]? = some vrp) := ⟨by
      have h := flatten_get css H.five i 1 _ hcsi (by omega)
      rw [← hR4, List.getElem?_take, if_pos (by omega)] at h
      exact h⟩
    have hdr : Step (fun x => x = (3, 0)) w ρ w2 ρ2 := (Step.refl _ w ρ).drewN nq |>.trans hS2
    have HST0 : Step (TakeT i) w ρ (w2.setCell ⟨a, 2, none⟩ (.slice (some ⟨g2, 0, none⟩) (s.np + many) c2)) ρ2 := (hdr.mono (by rintro t rfl; simp [TakeT])).setCell ht2 (by simp [TakeT]) _
    have HBR0 : Blk (w2.setCell ⟨a, 2, none⟩ (.slice (some ⟨g2, 0, none⟩) (s.np + many) c2)) g 58 LR := (hdr.blk' hbR hgt (by simp)).setCell_ne _ (by exact fun h => hne h.symm)
    have HTG0 := hdr.tag hgl hgt
    have HP0 : OwnSl (w2.setCell ⟨a, 2, none⟩ (.slice (some ⟨g2, 0, none⟩) (s.np + many) c2)) ρ2 (5, i) 3 1 vrp r.pgs.length (ints r.pgs) := (hOrp.step hdr (by simp)).set_ne _ (by rw [ht2]; simp)
    have hz : (Builtin.zeroCells (Value.agg (Array.replicate 16 (Value.int IntKind.i64 0))).cells many).toList = ints (List.replicate (many * 16) 0) := zeros75 many
    have HPG0 : OwnSl (w2.setCell ⟨a, 2, none⟩ (.slice (some ⟨g2, 0, none⟩) (s.np + many) c2)) ρ2 (3, 0) 75 16 (.slice (some ⟨g2, 0, none⟩) (s.np + many) c2) (s.np + many) (ints (s.data ++ List.replicate (many * 16) 0)) := by
      have := hO2.set_ne (a := ⟨a, 2, none⟩) (.slice (some ⟨g2, 0, none⟩) (s.np + many) c2) (by rw [ht2]; simp)
      simp only [ints, List.map_append] at hz ⊢
      rw [← hz]
      exact this
    have HWT0 : OwnSl (w2.setCell ⟨a, 2, none⟩ (.slice (some ⟨g2, 0, none⟩) (s.np + many) c2)) ρ2 (4, 0) 3 1 vw s.wait.length (ints s.wait) := (H.wait.step hdr (by simp)).set_ne _ (by rw [ht2]; simp)
    have HBA0 : Blk (w2.setCell ⟨a, 2, none⟩ (.slice (some ⟨g2, 0, none⟩) (s.np + many) c2)) a 55 [.bool true, vr, .slice (some ⟨g2, 0, none⟩) (s.np + many) c2, vw, .int .i64 s.held, .int .i64 s.used] := hb2.setCell 2 _
    have HPL : Hd (r.pgs.length ≤ 200000) := ⟨hF.pgs r (List.mem_of_getElem? hi)⟩
    have HRF : Hd (LR.take (s.regs.length * 5) = css.flatten ∧ s.regs.length ≤ c ∧ c ≤ maxLen ∧ c * 5 ≤ LR.length) := ⟨hR4, hR1, hR2, hR3⟩
    have HST := Hd.mk HST0
    have HBR := Hd.mk HBR0
    have HTG := Hd.mk HTG0
    have HP := Hd.mk HP0
    have HPG := Hd.mk HPG0
    have HWT := Hd.mk HWT0
    have HBA := Hd.mk HBA0
    have HTA := Hd.mk ht2
    have HRC := Hd.mk hOrc
    clear HST0 HBR0 HTG0 HP0 HPG0 HWT0 HBA0 hdr hz hne hbR hgt hgl hOrp hOrc hR1 hR2 hR3 hR4 hO2 hS2 hOp hb2 hgt' ht2
    go_wp2
    generalize (w2.setCell ⟨a, 2, none⟩ (.slice (some ⟨g2, 0, none⟩) (s.np + many) c2)) = W at *
    generalize hf : s.np = f at *
    have HFS := Hd.mk hf
    clear hf

    -- the loop: the region's pages
    go_loopw [11] (fun v wr => ∃ (d : Nat) (vq : Value) (ρr : Ghost), d ≤ many ∧ v = .int .i64 ((f + d : Nat) : Int) ∧ Blk wr g 58 (LR.set (i * 5 + 1) vq) ∧ OwnSl wr ρr (5, i) 3 1 vq (r.pgs.length + d) (ints (r.pgs ++ upTo f d)) ∧ Step (LoopT i) W ρ2 wr ρr) (fun v _ => f + many - (intOf v).toNat)
    case atStart =>
      refine ⟨0, vrp, ρ2, by omega, by simp, ?_, by simpa [upTo] using HP.out, Step.refl _ _ _⟩
      rw [List.set_eq_of_get HLR.out]
      exact HBR.out
    case round =>
      obtain ⟨d, vq, ρr, hd, rfl, hbq, hOq, hSq⟩ := hrel
      have hbA := hSq.blk' HBA.out HTA.out (by simp [LoopT])
      have htg := hSq.tag HBR.out.lt HTG.out
      have hta := hSq.tag HBA.out.lt HTA.out
      have HSQ := Hd.mk hSq
      by_cases hlt : d < many
      · have hq1 := hbq.cell (i := i * 5 + 1) (by rw [List.getElem?_set_self (List.getElem?_eq_some_iff.1 HLR.out).1])
        have hpl := HPL.out
        obtain ⟨Aq, cq, rfl, hcq1, hcq2⟩ := hOq.form
        generalize hx : f + d = x at *
        have HX := Hd.mk hx
        have hxb : x ≤ 1000000300 := by omega
        have hxm : x < f + many := by omega
        have hxm' : (x : Int) < (f : Int) + many := by omega
        clear hx hbA hSq
        unfold maxLen at hcq2
        go_wp2_with (at_builtin; refine wpList_append_box rfl _ _ _ rfl 3 _ 1 8 Try.underlying28 info3 rfl (by decide) ρr (5, i) (.slice Aq (r.pgs.length + d) cq) (r.pgs.length + d) _ [.int .i64 x] rfl hOq 1 rfl rfl (by simp [Value.oneCell']) (by unfold maxLen; omega) (by omega) ?z2)
        case z2 =>
        intro v3 w3 ρ3 hO3 hS3
        obtain ⟨g3, c3, rfl, hg3, l3, m3, _, _, hgl3⟩ := hO3.some (by omega)
        have hb3 := hS3.blk' hbq htg (by simp)
        have ht3 := hS3.tag hbq.lt htg
        have y1 := hb3.free (i * 5 + 1)
        have y0 := hb3.cell (i := i * 5 + 1) (by rw [List.getElem?_set_self (List.getElem?_eq_some_iff.1 HLR.out).1])
        have HS3 := Hd.mk hS3
        clear hS3 hq1
        go_wp2
        go_roundw
        case rel =>
          refine ⟨d + 1, .slice (some ⟨g3, 0, none⟩) (r.pgs.length + d + 1) c3, ρ3, by omega, ?_, ?_, ?_, ?_⟩
          · have := HX.out; congr 1; omega
          · have := hb3.setCell (i * 5 + 1) (.slice (some ⟨g3, 0, none⟩) (r.pgs.length + d + 1) c3)
            rw [List.set_set] at this
            exact this
          · have e : ints (r.pgs ++ upTo f (d + 1)) = ints (r.pgs ++ upTo f d) ++ [.int .i64 x] := by
              have := HX.out
              rw [upTo_succ, ← List.append_assoc]
              simp only [ints, List.map_append, List.map_cons, List.map_nil]
              congr 3
              omega
            rw [e]
            exact hO3.set_ne _ (by rw [ht3]; simp)
          · exact (HSQ.out.trans (HS3.out.mono (by rintro t rfl; simp [LoopT]))).setCell ht3 (by simp [LoopT]) _
        case measure => have := HX.out; simp [intOf]; omega
      · have hdm : d = many := by omega
        subst hdm
        have u5 := hbA.cell (i := 5) rfl
        have u5f := hbA.free 5
        have hub := hF.used
        obtain ⟨hub1, hub2⟩ := hub
        have hnl : ¬ ((f : Int) + d < (f : Int) + d) := by omega
        clear hSq
        go_wp2
        go_ret
        have HF1 := HSQ.out
        refine ⟨ρr, ?_, ?_, ?_⟩
        · rw [takeS, HK.out]; dsimp only; rw [HFS.out]; rfl
        · rw [takeS, HK.out]; dsimp only; rw [HFS.out]
          have hcore := take_core (used := s.used + d) (vq := vq) (fst := f) (many := d) H hi hv HRF.out HLR.out hcsi HRC.out (HST.out.trans (HF1.mono (loopT_takeT i))) (hbA.setCell 5 _) hta (hbq.setCell_ne _ (by rintro rfl; rw [htg] at hta; cases hta)) htg (by
            have := hOq.set_ne (a := ⟨a, 5, none⟩) (.int .i64 (s.used + d)) (by rw [hta]; simp)
            simpa [upTo_length] using this)
          try rw [← hv]
          exact hcore (f + d) (s.data ++ List.replicate (d * 16) 0) s.wait (HPG.out.step HF1 (by simp [LoopT]) |>.set_ne _ (by rw [hta]; simp)) (HWT.out.step HF1 (by simp [LoopT]) |>.set_ne _ (by rw [hta]; simp))
        · exact ((HST.out.trans (HF1.mono (loopT_takeT i))).mono (takeT_stag i)).setCell hta (by simp [STag]) _

theorem del_lists {LW : List Value} {wait : List Int} {k many : Nat} (h : LW.take wait.length = ints wait) (hl : wait.length ≤ LW.length) (hk : k + many ≤ wait.length) :
    (splice LW k (ints (wait.drop (k + many)))).take (k + (wait.length - (k + many))) = ints (wait.take k ++ wait.drop (k + many)) := by
  unfold splice
  have h1 : LW.take k = ints (wait.take k) := by
    have h' := congrArg (List.take k) h
    rw [List.take_take, Nat.min_eq_left (by omega)] at h'
    rw [h', ints, ints, List.map_take]
  rw [h1, take_app (by simp [ints]; omega)]
  simp [ints]

set_option maxRecDepth 100000 in
set_option maxHeartbeats 1000000 in
theorem take_wait (w : World) (ρ : Ghost) (a : Nat) (s : PSt) (vr vp vw : Value) (css : List (List Value)) (H : RepAt w ρ a s vr vp vw css) (hF : Fine s) (i : Nat) (r : PReg) (hi : s.regs[i]? = some r) (g c : Nat) (hv : vr = .slice (some ⟨g, 0, none⟩) s.regs.length c) (many : Nat) (hm1 : 1 ≤ many) (hm2 : many ≤ 300) (k : Nat) (hk : runK s.wait many = some k) :
    Calls Try.prog 34 #[.pointer (some ⟨a, 0, none⟩), .pointer (some ⟨g, i * 5, none⟩), .int .i64 many] w (TakePost ρ a s vr i many w) := by
    have hrun := run_any w ρ a s ⟨vr, vp, vw, css, H⟩ many hm1 (by omega) hF.wait (by have := hF.nwait; omega)
    rw [runF_eq, hk] at hrun
    dsimp only at hrun
    obtain ⟨hk1, hk2, hk3⟩ := runK_some (.inr (by omega)) hk
    obtain ⟨f, hf⟩ : ∃ f : Nat, s.wait.getD k 0 = (f : Int) := by
      have := hF.wait.getD k
      exact ⟨(s.wait.getD k 0).toNat, by omega⟩
    have hfb : f ≤ 1000000000 := by have := hF.wait.getD k; omega
    rw [hf] at hrun
    have hri := hF.rise
    have HRI := Hd.mk hri
    have HRUN := Hd.mk hrun
    have HK := Hd.mk hk
    have HF := Hd.mk hf
    clear hrun hk hk2 hk3 hf hri
    go_enter Try.func34, Try.ntmps34
    go_wp2_with fail
    refine HRUN.out.mono ?_
    rintro e w1 ⟨nq, rfl, hw1⟩
    have hS1 : Step (fun _ => False) w ρ w1 ρ := by subst hw1; exact (Step.refl _ w ρ).drewN nq
    have H1 : RepAt w1 ρ a s vr vp vw css := H.step hS1 (fun _ _ h => h)
    have HS1 := Hd.mk hS1
    clear hw1 hS1 H
    have hb := H1.blk
    have hc3 := hb.cell (i := 3) rfl
    obtain ⟨gw, cw, LW, rfl, hgw, hbW, hw1, hw2, hw3, hw4⟩ := H1.wait.opn (by omega)
    have HOW := Hd.mk H1.wait
    have hnw := hF.nwait
    go_wp2_with fail
    refine (search_any _ ρ (4, 0) _ cw s.wait HOW.out f (by omega) HRI.out).mono ?_
    rintro e w1' ⟨k', b', rfl, hpl, rfl⟩
    have hkk : k' = k := by
      have h1 := hpl.lo
      have h2 := hpl.hi
      rcases Nat.lt_trichotomy k' k with h | h | h
      · have h3 := h2 k' (Nat.le_refl _) (by omega)
        have h4 := HRI.out k' k h (by omega)
        rw [HF.out] at h4
        omega
      · exact h
      · have h3 := h1 k h
        rw [HF.out] at h3
        omega
    subst hkk
    clear hpl
    generalize hnn : s.wait.length = n at *
    have HNN := Hd.mk hnn
    clear hnn
    have f1 : IntKind.i64.wrap ((k' : Int) + many) = (k' : Int) + many := IntWalk.i64_in _ (by omega)
    have f2 : ((k' : Int) + many).toNat = k' + many := by omega
    have f3 : (0 : Int) ≤ (k' : Int) + many := by omega
    have f4 : (k' : Int) + many ≤ n := by omega
    have f5 : k' ≤ n := by omega
    have f6 : ¬ (cw = k') := by omega
    have hsrc : ∃ sA : Option Addr, (if cw = k' + many then (some ⟨gw, 0, none⟩ : Option Addr) else some ⟨gw, k' + many, none⟩) = sA ∧ (ints (s.wait.drop (k' + many)) = [] ∨ ∃ x, sA = some x ∧ ∀ j u, (ints (s.wait.drop (k' + many)))[j]? = some u → w1.drew.cell? (x.add j) = some u) := by
      by_cases hcw : cw = k' + many
      · refine ⟨_, rfl, .inl ?_⟩
        have := HNN.out
        rw [List.drop_eq_nil_of_le (by omega)]
        rfl
      · refine ⟨_, rfl, .inr ⟨⟨gw, k' + many, none⟩, if_neg hcw, fun j u hu => ?_⟩⟩
        rw [add_plainO]
        have hlt := (List.getElem?_eq_some_iff.1 hu).1
        have := HNN.out
        simp [ints] at hlt
        show w1.cell? _ = _
        rw [hbW.at]
        have h := congrArg (fun l => l[k' + many + j]?) hw4
        simp only [List.getElem?_take] at h
        rw [if_pos (by omega)] at h
        rw [h]
        rw [ints, List.getElem?_map, List.getElem?_drop] at hu
        rw [ints, List.getElem?_map]
        exact hu
    obtain ⟨sA, hsA, hsrc⟩ := hsrc
    have HSRC := Hd.mk hsrc
    have HW4 := Hd.mk hw4
    have HSA := Hd.mk hsA
    clear hsrc hw4 hsA
    go_wp2_with fail
    go_still_tail 14, (by kernel_rfl)
    clear f1 f2 f3 f4 f6
    change wpList _ _ _ _ _ w1.drew
    rw [HSA.out]
    have hq1 : (ints (s.wait.drop (k' + many))).length = n - (k' + many) := by have := HNN.out; simp [ints]; omega
    have hmin : Nat.min (n - (k' + many)) (n - k') = n - (k' + many) := Nat.min_eq_left (by omega)
    refine wpList_copyB rfl _ _ 28 28 rfl 3 1 Try.underlying28 info3s gw k' (n - k') (cw - k') 3 LW ?d1 hbW.drew sA (n - (k' + many)) (cw - (k' + many)) ?d2 (ints (s.wait.drop (k' + many))) ?d3 HSRC.out ?d5 ?d6 ρ (4, 0) hgw ?d7
    case d1 => first | rfl | (unfold Act.eval; simp)
    case d2 => first | rfl | (unfold Act.eval; simp)
    case d3 => rw [hmin, hq1, Nat.mul_one]
    case d5 => rw [hq1]; omega
    case d6 => intro u hu; rw [ints] at hu; obtain ⟨_, _, rfl⟩ := List.mem_map.1 hu; rfl
    case d7 =>
    rw [hmin]
    intro w3 hb3 hS3 hF3
    generalize hqq : n - (k' + many) = q at *
    have HQ := Hd.mk hqq
    have qb1 : k' + q ≤ cw := by omega
    have qb2 : (k' : Int) + q ≤ cw := by omega
    have HB3 := Hd.mk hb3
    have hS3' : Step (TakeT i) w ρ w3 ρ := ((HS1.out.mono (fun _ h => h.elim)).drew).trans (hS3.mono (by rintro t rfl; simp [TakeT]))
    have hab3 := hS3.blk' hb.drew H1.tag (by simp)
    have hta3 := hS3.tag (by exact hb.lt) H1.tag
    obtain ⟨_, _, vrp, vrc, hv', _, _, hgt, hgl, hcsi, hOrp, hOrc, _⟩ := H1.reg hi
    rw [hv] at hv'
    cases hv'
    obtain ⟨g', c', LR, hv', hgt', hbR, hR1, hR2, hR3, hR4⟩ := H1.regs.opn (by have := (List.getElem?_eq_some_iff.1 hi).1; omega)
    rw [hv] at hv'
    cases hv'
    have hne : a ≠ g := by rintro rfl; have := H1.tag; rw [hgt] at this; cases this
    have hlt : i < s.regs.length := (List.getElem?_eq_some_iff.1 hi).1
    have HLR : Hd (LR[i * 5 + 1]? = some vrp) := ⟨by
      have h := flatten_get css H1.five i 1 _ hcsi (by omega)
      rw [← hR4, List.getElem?_take, if_pos (by omega)] at h
      exact h⟩
    have hdr : Step (fun x => x = (4, 0)) w1 ρ w3 ρ := (Step.refl _ w1 ρ).drew.trans hS3
    have hwl : s.wait.length = n := HNN.out
    have HST0 : Step (TakeT i) w ρ (w3.setCell ⟨a, 3, none⟩ (.slice (some ⟨gw, 0, none⟩) (k' + q) cw)) ρ := hS3'.setCell hta3 (by simp [TakeT]) _
    have HBR0 : Blk (w3.setCell ⟨a, 3, none⟩ (.slice (some ⟨gw, 0, none⟩) (k' + q) cw)) g 58 LR := (hdr.blk' hbR hgt (by simp)).setCell_ne _ (by exact fun h => hne h.symm)
    have HP0 : OwnSl (w3.setCell ⟨a, 3, none⟩ (.slice (some ⟨gw, 0, none⟩) (k' + q) cw)) ρ (5, i) 3 1 vrp r.pgs.length (ints r.pgs) := (hOrp.step hdr (by simp)).set_ne _ (by rw [hta3]; simp)
    have HPG0 : OwnSl (w3.setCell ⟨a, 3, none⟩ (.slice (some ⟨gw, 0, none⟩) (k' + q) cw)) ρ (3, 0) 75 16 vp s.np (ints s.data) := (H1.pages.step hdr (by simp)).set_ne _ (by rw [hta3]; simp)
    have HWT0 : OwnSl (w3.setCell ⟨a, 3, none⟩ (.slice (some ⟨gw, 0, none⟩) (k' + q) cw)) ρ (4, 0) 3 1 (.slice (some ⟨gw, 0, none⟩) (k' + q) cw) (s.wait.take k' ++ s.wait.drop (k' + many)).length (ints (s.wait.take k' ++ s.wait.drop (k' + many))) := by
      have hlen : (s.wait.take k' ++ s.wait.drop (k' + many)).length = k' + q := by simp; omega
      rw [hlen]
      refine OwnSl.set_ne (OwnSl.mk hgw hb3 (by omega) hw2 (by rw [splice_length (by rw [hq1]; omega)]; exact hw3) ?_) _ (by rw [hta3]; simp)
      have := del_lists (LW := LW) (wait := s.wait) (k := k') (many := many) (by rw [hwl]; simpa using HW4.out) (by rw [hwl]; omega) (by rw [hwl]; omega)
      rw [hwl, hqq] at this
      simpa using this
    have HBA0 : Blk (w3.setCell ⟨a, 3, none⟩ (.slice (some ⟨gw, 0, none⟩) (k' + q) cw)) a 55 [.bool true, vr, vp, .slice (some ⟨gw, 0, none⟩) (k' + q) cw, .int .i64 s.held, .int .i64 s.used] := hab3.setCell 3 _
    have HPL : Hd (r.pgs.length ≤ 200000) := ⟨hF.pgs r (List.mem_of_getElem? hi)⟩
    have HRF : Hd (LR.take (s.regs.length * 5) = css.flatten ∧ s.regs.length ≤ c ∧ c ≤ maxLen ∧ c * 5 ≤ LR.length) := ⟨hR4, hR1, hR2, hR3⟩
    have HST := Hd.mk HST0
    have HBR := Hd.mk HBR0
    have HTG := Hd.mk hgt
    have HP := Hd.mk HP0
    have HPG := Hd.mk HPG0
    have HWT := Hd.mk HWT0
    have HBA := Hd.mk HBA0
    have HTA := Hd.mk hta3
    have HRC := Hd.mk (hOrc)
    have H := Hd.mk H1
    have HST1 : Hd (Step (TakeT i) w1 ρ (w3.setCell ⟨a, 3, none⟩ (.slice (some ⟨gw, 0, none⟩) (k' + q) cw)) ρ) := ⟨(hdr.mono (by rintro t rfl; simp [TakeT])).setCell hta3 (by simp [TakeT]) _⟩
    have k0 := hab3.cell (i := 3) rfl
    have k1 := hab3.free 3
    have hw2' := hw2
    unfold maxLen at hw2'
    clear HST0 HBR0 HP0 HPG0 HWT0 HBA0 hdr hne hbR hgt hgl hOrp hOrc hR1 hR2 hR3 hR4 hgt' hta3 hS3' hb3 hS3 hF3 hq1 hmin hwl hab3 hbW hb HB3
    go_wp2
    generalize (w3.setCell ⟨a, 3, none⟩ (.slice (some ⟨gw, 0, none⟩) (k' + q) cw)) = W at *
    generalize hρ2 : ρ = ρ2 at *

    -- the loop: the region's pages
    go_loopw [11] (fun v wr => ∃ (d : Nat) (vq : Value) (ρr : Ghost), d ≤ many ∧ v = .int .i64 ((f + d : Nat) : Int) ∧ Blk wr g 58 (LR.set (i * 5 + 1) vq) ∧ OwnSl wr ρr (5, i) 3 1 vq (r.pgs.length + d) (ints (r.pgs ++ upTo f d)) ∧ Step (LoopT i) W ρ2 wr ρr) (fun v _ => f + many - (intOf v).toNat)
    case atStart =>
      refine ⟨0, vrp, ρ2, by omega, by simp, ?_, by simpa [upTo] using HP.out, Step.refl _ _ _⟩
      rw [List.set_eq_of_get HLR.out]
      exact HBR.out
    case round =>
      obtain ⟨d, vq, ρr, hd, rfl, hbq, hOq, hSq⟩ := hrel
      have hbA := hSq.blk' HBA.out HTA.out (by simp [LoopT])
      have htg := hSq.tag HBR.out.lt HTG.out
      have hta := hSq.tag HBA.out.lt HTA.out
      have HSQ := Hd.mk hSq
      by_cases hlt : d < many
      · have hq1 := hbq.cell (i := i * 5 + 1) (by rw [List.getElem?_set_self (List.getElem?_eq_some_iff.1 HLR.out).1])
        have hpl := HPL.out
        obtain ⟨Aq, cq, rfl, hcq1, hcq2⟩ := hOq.form
        generalize hx : f + d = x at *
        have HX := Hd.mk hx
        have hxb : x ≤ 1000000300 := by omega
        have hxm : x < f + many := by omega
        have hxm' : (x : Int) < (f : Int) + many := by omega
        clear hx hbA hSq
        unfold maxLen at hcq2
        go_wp2_with (at_builtin; refine wpList_append_box rfl _ _ _ rfl 3 _ 1 8 Try.underlying28 info3 rfl (by decide) ρr (5, i) (.slice Aq (r.pgs.length + d) cq) (r.pgs.length + d) _ [.int .i64 x] rfl hOq 1 rfl rfl (by simp [Value.oneCell']) (by unfold maxLen; omega) (by omega) ?z2)
        case z2 =>
        intro v3 w3 ρ3 hO3 hS3
        obtain ⟨g3, c3, rfl, hg3, l3, m3, _, _, hgl3⟩ := hO3.some (by omega)
        have hb3 := hS3.blk' hbq htg (by simp)
        have ht3 := hS3.tag hbq.lt htg
        have y1 := hb3.free (i * 5 + 1)
        have y0 := hb3.cell (i := i * 5 + 1) (by rw [List.getElem?_set_self (List.getElem?_eq_some_iff.1 HLR.out).1])
        have HS3 := Hd.mk hS3
        clear hS3 hq1
        go_wp2
        go_roundw
        case rel =>
          refine ⟨d + 1, .slice (some ⟨g3, 0, none⟩) (r.pgs.length + d + 1) c3, ρ3, by omega, ?_, ?_, ?_, ?_⟩
          · have := HX.out; congr 1; omega
          · have := hb3.setCell (i * 5 + 1) (.slice (some ⟨g3, 0, none⟩) (r.pgs.length + d + 1) c3)
            rw [List.set_set] at this
            exact this
          · have e : ints (r.pgs ++ upTo f (d + 1)) = ints (r.pgs ++ upTo f d) ++ [.int .i64 x] := by
              have := HX.out
              rw [upTo_succ, ← List.append_assoc]
              simp only [ints, List.map_append, List.map_cons, List.map_nil]
              congr 3
              omega
            rw [e]
            exact hO3.set_ne _ (by rw [ht3]; simp)
          · exact (HSQ.out.trans (HS3.out.mono (by rintro t rfl; simp [LoopT]))).setCell ht3 (by simp [LoopT]) _
        case measure => have := HX.out; simp [intOf]; omega
      · have hdm : d = many := by omega
        subst hdm
        have u5 := hbA.cell (i := 5) rfl
        have u5f := hbA.free 5
        have hub := hF.used
        obtain ⟨hub1, hub2⟩ := hub
        have hnl : ¬ ((f : Int) + d < (f : Int) + d) := by omega
        clear hSq
        go_wp2
        go_ret
        have HF1 := HSQ.out
        refine ⟨ρr, ?_, ?_, ?_⟩
        · rw [takeS, HK.out]; dsimp only; rw [HF.out]; rfl
        · rw [takeS, HK.out]; dsimp only; rw [HF.out]
          have hcore := take_core (used := s.used + d) (vq := vq) (fst := f) (many := d) H.out hi hv HRF.out HLR.out hcsi HRC.out (HST1.out.trans (HF1.mono (loopT_takeT i))) (hbA.setCell 5 _) hta (hbq.setCell_ne _ (by rintro rfl; rw [htg] at hta; cases hta)) htg (by
            have := hOq.set_ne (a := ⟨a, 5, none⟩) (.int .i64 (s.used + d)) (by rw [hta]; simp)
            simpa [upTo_length] using this)
          try rw [← hv]
          exact hcore s.np s.data (s.wait.take k' ++ s.wait.drop (k' + d)) (HPG.out.step HF1 (by simp [LoopT]) |>.set_ne _ (by rw [hta]; simp)) (HWT.out.step HF1 (by simp [LoopT]) |>.set_ne _ (by rw [hta]; simp))
        · exact ((HST.out.trans (HF1.mono (loopT_takeT i))).mono (takeT_stag i)).setCell hta (by simp [STag]) _

theorem take_any (w : World) (ρ : Ghost) (a : Nat) (s : PSt) (vr vp vw : Value) (css : List (List Value)) (H : RepAt w ρ a s vr vp vw css) (hF : Fine s) (i : Nat) (r : PReg) (hi : s.regs[i]? = some r) (g c : Nat) (hv : vr = .slice (some ⟨g, 0, none⟩) s.regs.length c) (many : Nat) (hm1 : 1 ≤ many) (hm2 : many ≤ 300) :
    Calls Try.prog 34 #[.pointer (some ⟨a, 0, none⟩), .pointer (some ⟨g, i * 5, none⟩), .int .i64 many] w (TakePost ρ a s vr i many w) := by
  cases hk : runK s.wait many with
  | none => exact take_fresh w ρ a s vr vp vw css H hF i r hi g c hv many hm1 hm2 hk
  | some k => exact take_wait w ρ a s vr vp vw css H hF i r hi g c hv many hm1 hm2 k hk

end Go.Proofs.Ytgejmgomliadmaa
