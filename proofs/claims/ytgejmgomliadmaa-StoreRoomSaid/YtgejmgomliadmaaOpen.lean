/- A script, that is a slice of structs of six fields, opened to its cells. -/
import Derived.Test.YtgejmgomliadmaaLwB
import Derived.Deep.Slices
import Derived.Deep.Fields
import Derived.ChangeSame
import Derived.WideShapes
set_option linter.unusedVariables false
namespace Go.Proofs.Ytgejmgomliadmaa
open Go Go.RowKit Go.ChangeShapes Go.WideShapes Go.Deep

section
variable {H : Type} {enc : TypeId × Value → H} {P : Program} {w : World} {base : Nat} {spare : Nat → Bool} {held : Bool}
theorem open_slice_fields {t e : TypeId} {fs : Array Field} {fuel : Nat} {cs : List Value} {x : DataW H × List MemPlace} (ht : P.underlying t = some (.slice e)) (he : P.underlying e = some (.struct fs))
    (hone : oneCellFields P fs = true) (hC : P.cellsOf e = fs.size) (h : DataW.trod enc P w base spare held fuel t cs = some x) :
    (cs = [.slice none 0 0] ∧ x = (.nil, [])) ∨
    ∃ (a : Addr) (len cap m : Nat) (D : Nat → DataW H) (Pl : Nat → List MemPlace), cs = [.slice (some a) len cap] ∧ base ≤ a.block ∧ len ≤ cap ∧ cap ≤ maxLen ∧ m = (if spare a.block then cap else len) ∧
      x = (.slice ((List.range len).map D) ((List.range (m - len)).map fun j => D (len + j)), MemPlace.row a (m * fs.size) ++ (List.range m).flatMap Pl) ∧
      ∀ i, i < m → ∃ (ys : List (DataW H × List MemPlace)) (n : Nat), D i = .agg (ys.map (·.1)) ∧ Pl i = ys.flatMap (·.2) ∧ ys.length = fs.size ∧
        ∀ (j : Nat) (f : Field), fs[j]? = some f → ∃ (v : Value) (y : DataW H × List MemPlace), w.cell? (a.add (i * fs.size + j)) = some v ∧ ys[j]? = some y ∧ DataW.trod enc P w base spare held n f.type [v] = some y := by
  rcases open_slice ht h with h0 | ⟨a, len, cap, m, n, D, Pl, hcs, hb, hl, hm, hmm, hx, hi⟩
  · exact .inl h0
  · refine .inr ⟨a, len, cap, m, D, Pl, hcs, hb, hl, hm, hmm, by rw [hC] at hx; exact hx, fun i him => ?_⟩
    obtain ⟨cs', hc, ht'⟩ := hi i him
    rw [hC] at hc
    obtain ⟨ys, n', hn', hy, hlen, hyl, hf⟩ := DataW.trod_struct he ht'
    obtain ⟨_, hcl, hat⟩ := World.cells?_some hc
    simp only [Prod.mk.injEq] at hy
    refine ⟨ys, n', hy.1, hy.2, hyl, fun j f hj => ?_⟩
    obtain ⟨ho, hk⟩ := hone_of hone j f hj
    have hjl : j < fs.size := (Array.getElem?_eq_some_iff.1 hj).1
    have hcell := hat j hjl
    have hv : cs'[j]? = some (cs'[j]'(by omega)) := List.getElem?_eq_getElem (by omega)
    have h1 := hf j f hj
    rw [ho, hk] at h1
    have hone' : (cs'.drop j).take 1 = [cs'[j]'(by omega)] := by
      rw [List.drop_eq_getElem_cons (by omega)]
      rfl
    rw [hone'] at h1
    have hys : ys[j]? = some (ys[j]'(by omega)) := List.getElem?_eq_getElem (by omega)
    refine ⟨_, _, ?_, hys, h1.trans hys⟩
    rw [← Go.Deep.add_add, hcell, hv]
end

theorem World.cell_spot {w : World} {a : Addr} {v : Value} (h : w.cell? a = some v) : a.spot = none := by
  unfold World.cell? at h
  split at h
  · split at h
    · cases h
    · rename_i h2; simpa using h2
  · cases h
theorem add_none {a : Addr} (h : a.spot = none) (k : Nat) : a.add k = ⟨a.block, a.off + k, none⟩ := by
  unfold Addr.add
  split
  · rename_i hk; subst hk; cases a; simp at h; simp [h]
  · rfl
theorem fs34 : ∃ f0 f1 f2 f3 f4 f5 : Field, Try.prog.underlying 34 = some (.struct #[f0, f1, f2, f3, f4, f5]) ∧ Try.prog.underlying f0.type = some (.int .u8) ∧ Try.prog.underlying f1.type = some (.int .i64) ∧ Try.prog.underlying f2.type = some (.int .i64) ∧ Try.prog.underlying f3.type = some (.int .i64) ∧ Try.prog.underlying f4.type = some (.int .i64) ∧ Try.prog.underlying f5.type = some (.int .i64) ∧ oneCellFields Try.prog #[f0, f1, f2, f3, f4, f5] = true :=
  ⟨_, _, _, _, _, _, Try.underlying34, by kernel_rfl, by kernel_rfl, by kernel_rfl, by kernel_rfl, by kernel_rfl, by kernel_rfl, by kernel_rfl⟩
/-- What the row gives of a script. -/
def Script (w : World) (A : Option Addr) (len cap : Nat) : Prop := len ≤ maxLen ∧ ∃ L : List POp, L.length = len ∧ (0 < len → ∃ B o, A = some ⟨B, o, none⟩ ∧ OpsAt w B o L)
theorem script_of {H : Type} {enc : TypeId × Value → H} {w : World} {held : Bool} {fuel : Nat} {A : Option Addr} {len cap : Nat} {x : DataW H × List MemPlace} (h : DataW.trod enc Try.prog w 0 (fun _ => true) held fuel 22 [.slice A len cap] = some x) : Script w A len cap := by
  obtain ⟨f0, f1, f2, f3, f4, f5, hu, u0, u1, u2, u3, u4, u5, hone⟩ := fs34
  rcases open_slice_fields Try.underlying22 hu hone (by kernel_rfl) h with ⟨hcs, _⟩ | ⟨a, l, c, m, D, Pl, hcs, _, hl, hm, hmm, _, hf⟩
  · simp only [List.cons.injEq, Value.slice.injEq, and_true] at hcs
    obtain ⟨rfl, rfl, rfl⟩ := hcs
    exact ⟨by unfold maxLen; omega, [], rfl, fun h => by omega⟩
  · simp only [List.cons.injEq, Value.slice.injEq, and_true] at hcs
    obtain ⟨rfl, rfl, rfl⟩ := hcs
    simp only [if_true] at hmm
    subst hmm
    refine ⟨by omega, ?_⟩
    have key : ∀ i, i < len → ∃ p : POp, a.spot = none ∧ a.block < w.heap.size ∧ OpAt w a.block (a.off + i * 6) p := by
      intro i hi
      obtain ⟨ys, n, _, _, hyl, hc⟩ := hf i (by omega)
      obtain ⟨v0, y0, c0, _, t0⟩ := hc 0 f0 rfl
      obtain ⟨v1, y1, c1, _, t1⟩ := hc 1 f1 rfl
      obtain ⟨v2, y2, c2, _, t2⟩ := hc 2 f2 rfl
      obtain ⟨v3, y3, c3, _, t3⟩ := hc 3 f3 rfl
      obtain ⟨v4, y4, c4, _, t4⟩ := hc 4 f4 rfl
      obtain ⟨v5, y5, c5, _, t5⟩ := hc 5 f5 rfl
      obtain ⟨z0, e0, _, w0⟩ := DataW.trod_int u0 t0
      obtain ⟨z1, e1, _, w1⟩ := DataW.trod_int u1 t1
      obtain ⟨z2, e2, _, w2⟩ := DataW.trod_int u2 t2
      obtain ⟨z3, e3, _, w3⟩ := DataW.trod_int u3 t3
      obtain ⟨z4, e4, _, w4⟩ := DataW.trod_int u4 t4
      obtain ⟨z5, e5, _, w5⟩ := DataW.trod_int u5 t5
      simp only [List.cons.injEq, and_true] at e0 e1 e2 e3 e4 e5
      subst e0 e1 e2 e3 e4 e5
      have hsz : (#[f0, f1, f2, f3, f4, f5] : Array Field).size = 6 := rfl
      rw [hsz] at c0 c1 c2 c3 c4 c5
      have hsp : a.spot = none := by
        by_cases hz : i * 6 + 0 = 0
        · rw [hz] at c0
          exact World.cell_spot c0
        · cases hs : a.spot with
          | none => rfl
          | some q =>
            obtain ⟨ys', n', _, _, _, hc'⟩ := hf 0 (by omega)
            obtain ⟨v0', y0', c0', _, _⟩ := hc' 0 f0 rfl
            rw [Nat.zero_mul] at c0'
            have := World.cell_spot (a := a) c0'
            rw [hs] at this; cases this
      rw [add_none hsp] at c0 c1 c2 c3 c4 c5
      have hb : a.block < w.heap.size := World.block_lt_of_cell? w ⟨a.block, a.off + (i * 6 + 0), none⟩ c0
      have hz : 0 ≤ z0 ∧ z0 < 256 := by
        have := w0
        simp only [Lit.wf, Bool.and_eq_true, decide_eq_true_eq] at this
        rw [show IntKind.u8.min = 0 from rfl, show IntKind.u8.max = 255 from rfl] at this
        omega
      refine ⟨⟨z0.toNat, z1, z2, z3, z4, z5⟩, hsp, hb, by dsimp only; omega, ?_, c1, c2, c3, c4, c5⟩
      dsimp only
      rw [Int.toNat_of_nonneg hz.1]
      exact c0
    refine ⟨(List.range len).pmap (fun i hi => Classical.choose (key i hi)) (fun i hi => List.mem_range.1 hi), by simp, fun h0 => ?_⟩
    obtain ⟨_, hsp, hb, _⟩ := key 0 h0
    refine ⟨a.block, a.off, by cases a; simp at hsp; simp [hsp], hb, fun i x hx => ?_⟩
    have hi : i < len := by
      have := (List.getElem?_eq_some_iff.1 hx).1
      simpa using this
    rw [List.getElem?_eq_getElem (by simpa using hi), List.getElem_pmap] at hx
    injection hx with hx
    subst hx
    have := (Classical.choose_spec (key i hi)).2.2
    simpa using this

end Go.Proofs.Ytgejmgomliadmaa
