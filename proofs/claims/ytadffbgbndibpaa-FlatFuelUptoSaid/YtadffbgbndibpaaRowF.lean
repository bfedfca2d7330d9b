/- FlatFuel: for every program, arguments and two fuels of bulk at most 1048576 the law returns true. -/
import Derived.Test.YtadffbgbndibpaaKRnW
import Derived.Test.YtadffbgbndibpaaKTiH
import Derived.WalkKit
import Derived.ProofKit
import Derived.OpenShut
import Derived.JoinedCond
import Derived.ChangeOld
import Derived.Below
namespace Go.Proofs.Ytadffbgbndibpaa.flatFuel
open Go.ChangeShapes Go.WideShapes Go.ChangeAt Go.RowKit
set_option linter.unusedVariables false
set_option linter.constructorNameAsVariable false
set_option maxRecDepth 100000
theorem own : ownKnob Try.prog.godebug = none := by kernel_rfl
theorem laidOut : laidOutB Try.prog = true := by kernel_rfl
theorem u_two : Try.prog.underlying 28 = some (.array 2 3) := by kernel_rfl
theorem c_two : Try.prog.cellsOf 28 = 2 := by kernel_rfl
theorem two_ints {H : Type} {enc : TypeId × Value → H} {w : World} {held : Bool} {fuel : Nat} {v : Value} {x : DataW H × List MemPlace} (hv : Value.okWide Try.prog w .any 0 28 v) (h : DataW.trod enc Try.prog w 0 (fun _ => true) held fuel 28 v.cells.toList = some x) :
    ∃ z0 z1, v = .agg #[.int .i64 z0, .int .i64 z1] := by
  simp only [Value.okWide, u_two] at hv
  obtain ⟨cs, rfl, h2, _⟩ := hv
  rw [c_two] at h2
  obtain ⟨l⟩ := cs
  obtain ⟨c0, c1, rfl⟩ : ∃ c0 c1, l = [c0, c1] := by
    match l, h2 with
    | [c0, c1], _ => exact ⟨c0, c1, rfl⟩
  obtain ⟨xs, m, _, _, _, hl, hc⟩ := DataW.trod_array u_two h
  have h0 := hc 0 (by decide)
  have h1 := hc 1 (by decide)
  rw [List.getElem?_eq_getElem (by omega)] at h0 h1
  rw [c_int] at h0 h1
  obtain ⟨z0, e0, _⟩ := int_open u_int h0
  obtain ⟨z1, e1, _⟩ := int_open u_int h1
  cases e0; cases e1
  exact ⟨z0, z1, rfl⟩
set_option maxRecDepth 100000 in
theorem contract (H : Type) (enc : TypeId × Value → H) (W : World) (base : Nat) (args : Array Value) (ds gs : List (DataW H)) (before : List MemPlace)
    (hval0 : ∀ (j : Nat) t v, Try.f3.params[j]? = some t → args[j]? = some v → Value.okWide Try.prog W .any base t v)
    (hW : DataW.Whole enc Try.prog Try.f3.params.toList Rows.flatFuelSpec.vars false W args.toList ds gs before) (hk : Rows.uptoSmall H (ds ++ gs) = true) :
    Calls Try.prog 3 args W fun e W' => ∃ v, e = .returned v ∧ Rows.flatFuelSpec.post enc Try.prog Try.f3 false true false false W args v W' := by
  have hval : ∀ (j : Nat) t v, Try.f3.params[j]? = some t → args[j]? = some v → Value.okWide Try.prog W .any base t v := hval0
  have hW' := hW
  obtain ⟨p, q, hA0, hV, rfl, hfz, hnd⟩ := hW
  have hA : DataW.TrodAll enc Try.prog W 0 (fun _ => true) true Try.f3.params.toList args.toList ds p := hA0
  rw [Try.params3] at hA hval
  obtain ⟨v0, vs0, d0, ds0, p0, q0, hargs, rfl, rfl, k0, r0⟩ := trodAll_cons hA
  obtain ⟨v1, vs1, d1, ds1, p1, q1, rfl, rfl, rfl, k1, r1⟩ := trodAll_cons r0
  obtain ⟨v2, vs2, d2, ds2, p2, q2, rfl, rfl, rfl, k2, r2⟩ := trodAll_cons r1
  obtain ⟨rfl, rfl, rfl⟩ := trodAll_nil r2
  obtain rfl : args = #[v0, v1, v2] := by cases args; simp_all
  obtain ⟨rfl, rfl⟩ := trodVars_none hV
  have hB : Rows.uptoBulkAll ([d0, d1, d2] ++ ([] : List (DataW H))) ≤ 1048576 := of_decide_eq_true hk
  simp only [List.append_nil, Rows.uptoBulkAll] at hB
  have lt0 : ∀ x ∈ p0, x.block < W.heap.size := by obtain ⟨m, hm⟩ := k0; exact DataW.trod_lt m _ _ _ hm
  have lt1 : ∀ x ∈ p1, x.block < W.heap.size := by obtain ⟨m, hm⟩ := k1; exact DataW.trod_lt m _ _ _ hm
  have lt2 : ∀ x ∈ p2, x.block < W.heap.size := by obtain ⟨m, hm⟩ := k2; exact DataW.trod_lt m _ _ _ hm
  obtain ⟨cs, rfl, hcs⟩ := okWide_struct Try.underlying26 (hval 0 _ v0 rfl rfl)
  obtain ⟨a1, len1, cap1, rfl⟩ := okWide_slice Try.underlying27 (hval 1 _ v1 rfl rfl)
  have ⟨fu0, hf0⟩ := k0
  have ⟨fu1, hf1⟩ := k1
  have ⟨fu2, hf2⟩ := k2
  obtain ⟨P, hP⟩ := pg_open 1048576 hf0 (by show Rows.uptoBulk d0 ≤ _; omega) (Nat.le_refl _)
  have hP' := hP
  obtain ⟨w1, w2, w3, hc, _⟩ := hP
  obtain rfl : cs = #[w1, w2, w3, .int .i64 P.main] := by cases cs; simpa [Value.cells] using hc
  obtain ⟨v, L, hv, hL⟩ := ints_open (byt := 8) Try.underlying27 u_i64 (by kernel_rfl) (by decide) hf1 (by show Rows.uptoBulk d1 ≤ _; omega)
  simp only [Value.cells, List.cons.injEq, and_true] at hv
  subst hv
  obtain ⟨_, _, hq, _, _⟩ := SlR.form hL
  cases hq
  obtain ⟨z0, z1, rfl⟩ := two_ints (Value.okWide_any_base (hval 2 _ v2 rfl rfl)) hf2
  refine (FlatFuel_any 1048576 W P w1 w2 w3 hP' a1 cap1 L hL z0 z1).mono fun e W' ⟨he, bel⟩ => ?_
  subst he
  exact ⟨_, rfl, _, _, _, [], _, [], hW', trodAll_mk1 (shut_bool Try.underlying4 _), (trodAll_cons_mk (Below.trod laidOut (by kernel_rfl) (of_decide_eq_true (by kernel_rfl)) k0 bel lt0) (trodAll_cons_mk (Below.trod laidOut (by kernel_rfl) (of_decide_eq_true (by kernel_rfl)) k1 bel lt1) (trodAll_cons_mk (Below.trod laidOut (by kernel_rfl) (of_decide_eq_true (by kernel_rfl)) k2 bel lt2) trodAll_mk0))), rfl, bel.frame _, fun h => by cases h⟩
set_option maxRecDepth 100000 in
theorem lifted (os : Os) (started : os.Started) (H : Type) (enc : TypeId × Value → H) (F : Stop.Interp) :
    ReturnsInHanded {} Try.checked os 3 .any ((Rows.OpenSpec.upto Rows.flatFuelSpec).pre6 enc Try.prog Try.f3 Rows.flatFuelUptoRow.domain false) (((Rows.OpenSpec.upto Rows.flatFuelSpec).at F).post enc Try.prog Try.f3 false true false false) := by
  refine returnsInHanded_of_cond (C := Try.checked) (s := Rows.OpenSpec.upto Rows.flatFuelSpec) (k := Rows.uptoSmall) rfl own started (by kernel_rfl) Try.func3
    (OpenSpec.witness (enc := enc) (C := Try.checked) (s := Rows.OpenSpec.upto Rows.flatFuelSpec) (k := Rows.uptoSmall) rfl false ⟨#[], #[.agg #[.slice none 0 0, .slice none 0 0, .slice none 0 0, .int .i64 0], .slice none 0 0, .agg #[.int .i64 0, .int .i64 0]], []⟩ 8 (by kernel_rfl) (by kernel_rfl) (by kernel_rfl)
      (x := ([.agg [.nil, .nil, .nil, .lit (.int .i64 0)], .nil, .agg [.lit (.int .i64 0), .lit (.int .i64 0)]], [], [])) (by kernel_rfl) rfl (by kernel_rfl)) ?_
  intro W base args ds gs before hval hW _ hk _
  exact contract H enc W base args ds gs before hval hW hk
theorem proved : Rows.FlatFuelUptoSaid :=
  OpenClaim.holds_of_cond 3 Try.f3 rfl rfl rfl rfl rfl rfl rfl ⟨rfl, rfl, rfl, rfl, rfl⟩ rfl rfl rfl rfl rfl (by kernel_rfl) Try.func3 (by kernel_rfl)
    (of_decide_eq_true (by kernel_rfl)) (by unfold Func.isWrapper; first | (rw [if_pos (by decide +kernel)]; kernel_rfl) | (rw [if_neg (by decide +kernel)]; exact ⟨rfl, rfl⟩))
    (fun os started H enc _ F => lifted os started H enc F)
end Go.Proofs.Ytadffbgbndibpaa.flatFuel
namespace Go.Proofs.Ytadffbgbndibpaa
/-- The row, under a short name, for the claim. -/
theorem flatFuel_holds : Rows.FlatFuelUptoSaid := flatFuel.proved
#print axioms flatFuel_holds
end Go.Proofs.Ytadffbgbndibpaa
