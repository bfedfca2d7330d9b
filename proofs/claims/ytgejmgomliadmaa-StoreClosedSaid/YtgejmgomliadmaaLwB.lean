/- StoreAnswers: the walk. -/
import Derived.Test.YtgejmgomliadmaaPuI
set_option linter.unusedVariables false
namespace Go.Proofs.Ytgejmgomliadmaa
open Go Go.RowKit

/-- A call of a script. -/
structure POp where
  d : Nat
  r : Int
  n : Int
  a : Int
  f : Int
  v : Int
def OpAt (w : World) (B o : Nat) (x : POp) : Prop :=
  x.d < 256 ∧ w.cell? ⟨B, o, none⟩ = some (.int .u8 x.d) ∧ w.cell? ⟨B, o + 1, none⟩ = some (.int .i64 x.r) ∧ w.cell? ⟨B, o + 2, none⟩ = some (.int .i64 x.n) ∧ w.cell? ⟨B, o + 3, none⟩ = some (.int .i64 x.a) ∧ w.cell? ⟨B, o + 4, none⟩ = some (.int .i64 x.f) ∧ w.cell? ⟨B, o + 5, none⟩ = some (.int .i64 x.v)
def OpsAt (w : World) (B o : Nat) (L : List POp) : Prop := B < w.heap.size ∧ ∀ i x, L[i]? = some x → OpAt w B (o + i * 6) x
theorem OpAt.step {T : Tag → Prop} {w w' : World} {ρ' : Ghost} {B o : Nat} {x : POp} (h : OpAt w B o x) (hs : Step T w rho0 w' ρ') (hB : B < w.heap.size) : OpAt w' B o x := by
  have hb := hs.block B hB (fun t ht => by cases ht)
  obtain ⟨h0, h1, h2, h3, h4, h5, h6⟩ := h
  refine ⟨h0, ?_, ?_, ?_, ?_, ?_, ?_⟩
  · exact (World.cell?_of_block (a := ⟨B, o, none⟩) hb).trans h1
  · exact (World.cell?_of_block (a := ⟨B, o + 1, none⟩) hb).trans h2
  · exact (World.cell?_of_block (a := ⟨B, o + 2, none⟩) hb).trans h3
  · exact (World.cell?_of_block (a := ⟨B, o + 3, none⟩) hb).trans h4
  · exact (World.cell?_of_block (a := ⟨B, o + 4, none⟩) hb).trans h5
  · exact (World.cell?_of_block (a := ⟨B, o + 5, none⟩) hb).trans h6
theorem rrep_new (w : World) (ρ : Ghost) : RRep (w.alloc (.cells #[.slice none 0 0, .slice none 0 0, .slice none 0 0, .slice none 0 0, .slice none 0 0, .slice none 0 0, .slice none 0 0, .slice none 0 0] 31)) (ρ.put w.heap.size (21, 0)) w.heap.size RSt.empty :=
  ⟨_, _, _, _, _, _, _, _, Blk.new' _ _ _, Ghost.put_same _ _ _, OwnSl.nil .., OwnSl.nil .., OwnSl.nil .., OwnSl.nil .., OwnSl.nil .., OwnSl.nil .., OwnSl.nil .., OwnSl.nil ..⟩
def AnyT : Tag → Prop := fun _ => True

theorem SA_long (w : World) (A : Option Addr) (n c : Nat) (hn : n ≤ maxLen) (hl : 60 < n) :
    Calls Try.prog 3 #[.slice A n c] w fun e w' => e = .returned (.bool true) ∧ Below w.heap.size w w' := by
  have HF := Hd.mk (few_any w A n c hn)
  have HH := Hd.mk (head_any w)
  have hd : decide (n ≤ 60) = false := by simp; omega
  rw [hd] at HF
  go_enter Try.func3, Try.ntmps3
  go_wp2_with fail
  refine HF.out.mono ?_
  rintro e w' ⟨rfl, rfl⟩
  go_wp2_with fail
  refine HH.out.mono ?_
  rintro e w' ⟨rfl, hb⟩
  go_wp2
  go_ret
  exact ⟨rfl, hb⟩

set_option maxRecDepth 100000 in
set_option maxHeartbeats 4000000 in
theorem SA_short (w : World) (A : Option Addr) (c : Nat) (L : List POp) (hl : L.length ≤ 60) (hO : 0 < L.length → ∃ B o, A = some ⟨B, o, none⟩ ∧ OpsAt w B o L) :
    Calls Try.prog 3 #[.slice A L.length c] w fun e w' => e = .returned (.bool true) ∧ Below w.heap.size w w' := by
  have HF := Hd.mk (few_any w A L.length c (by unfold maxLen; omega))
  have hd : decide (L.length ≤ 60) = true := by simp; omega
  rw [hd] at HF
  have HO := Hd.mk hO
  clear hO
  go_enter Try.func3, Try.ntmps3
  go_wp2_with fail
  refine HF.out.mono ?_
  rintro e w' ⟨rfl, rfl⟩
  clear HF hd
  go_wp2_with fail
  refine (New_any w rho0).mono ?_
  rintro e w1 ⟨ρ1, rfl, H1, HS1⟩
  generalize hsz : w.heap.size = a at H1
  have HA := Hd.mk H1
  have HSA := Hd.mk (HS1.mono (T' := AnyT) (fun _ _ => trivial))
  clear H1 HS1
  go_wp2_with fail
  refine (RNew_any w1).mono ?_
  rintro e w2 ⟨rfl, HB2⟩
  go_wp2_with fail
  have HR0 := Hd.mk (rrep_new w2 ρ1)
  have hst := (HSA.out.of_below HB2).alloc_tag (.cells #[.slice none 0 0, .slice none 0 0, .slice none 0 0, .slice none 0 0, .slice none 0 0, .slice none 0 0, .slice none 0 0, .slice none 0 0] 31) (21, 0)
  have HS0 := Hd.mk hst
  have HA0 := Hd.mk ((HA.out.below HB2).step' (T := fun _ => False) ((Step.refl _ w2 ρ1).alloc_tag (.cells #[.slice none 0 0, .slice none 0 0, .slice none 0 0, .slice none 0 0, .slice none 0 0, .slice none 0 0, .slice none 0 0, .slice none 0 0] 31) (21, 0)) (by simp))
  generalize w2.alloc (.cells #[.slice none 0 0, .slice none 0 0, .slice none 0 0, .slice none 0 0, .slice none 0 0, .slice none 0 0, .slice none 0 0, .slice none 0 0] 31) = W0 at *
  generalize ρ1.put w2.heap.size (21, 0) = ρ0 at *
  generalize w2.heap.size = b at *
  clear hst HB2 HA HSA hsz
  go_loopw [5] (fun v wr => ∃ (i : Nat) (ρr : Ghost) (s : PSt) (t : RSt), v = .int .i64 i ∧ i ≤ L.length ∧ Both i s t ∧ Rep wr ρr a s ∧ RRep wr ρr b t ∧ Step AnyT w rho0 wr ρr) (fun v _ => L.length - (intOf v).toNat)
  case atStart => exact ⟨0, ρ0, hs0, RSt.empty, by simp, by omega, both_new, HA0.out, HR0.out, HS0.out⟩
  case round =>
    obtain ⟨i, ρ, s, t, rfl, hi, hB, hA, hR, hS⟩ := hrel
    have HB := Hd.mk hB
    have HS := Hd.mk hS
    by_cases hlt : i < L.length
    · obtain ⟨B, o, rfl, hBs, hops⟩ := HO.out (by omega)
      have hx := (hops i _ (List.getElem?_eq_getElem hlt)).step hS hBs
      generalize L[i] = x at *
      obtain ⟨d, r, n, ad, f, v⟩ := x
      obtain ⟨hd, q0, q1, q2, q3, q4, q5⟩ := hx
      dsimp only at hd q0 q1 q2 q3 q4 q5
      have hA1 := hA.step' (T := fun _ => False) ((Step.refl _ wr ρ).alloc (.cells #[.int .u8 d, .int .i64 r, .int .i64 n, .int .i64 ad, .int .i64 f, .int .i64 v] 34)) (by simp)
      have hR1 := hR.step (T := fun _ => False) ((Step.refl _ wr ρ).alloc (.cells #[.int .u8 d, .int .i64 r, .int .i64 n, .int .i64 ad, .int .i64 f, .int .i64 v] 34)) (by simp)
      have hS1 := hS.alloc (.cells #[.int .u8 d, .int .i64 r, .int .i64 n, .int .i64 ad, .int .i64 f, .int .i64 v] 34)
      have hX1 := Blk.new' wr #[.int .u8 d, .int .i64 r, .int .i64 n, .int .i64 ad, .int .i64 f, .int .i64 v] 34
      have hX0 : ρ wr.heap.size = none := hS.fresh (fresh0 w) _ (Nat.le_refl _)
      have HA1 := Hd.mk hA1
      have HR1 := Hd.mk hR1
      have HS1 := Hd.mk hS1
      have HX1 := Hd.mk hX1
      have HX0 := Hd.mk hX0
      clear hA hR hS hB hA1 hR1 hS1 hX1 hX0 hops HA0 HR0 HS0
      have hm : d % 8 = 0 ∨ d % 8 = 1 ∨ d % 8 = 2 ∨ d % 8 = 3 ∨ d % 8 = 4 ∨ d % 8 = 5 ∨ d % 8 = 6 ∨ d % 8 = 7 := by omega
      rcases hm with hm | hm | hm | hm | hm | hm | hm | hm
      · have em : (d : Int).tmod 8 = 0 := by rw [Int.tmod_eq_emod_of_nonneg (by omega)]; omega
        clear hm
        go_wp2_with fail
        generalize wr.alloc (.cells #[.int .u8 d, .int .i64 r, .int .i64 n, .int .i64 ad, .int .i64 f, .int .i64 v] 34) = W at *
        generalize wr.heap.size = X at *
        clear q0 q1 q2 q3 q4 q5 em
        obtain ⟨s', t', hB', hc1, hc2⟩ := open_both HB.out (by omega)
        have HBN := Hd.mk hB'
        have HC1 := Hd.mk hc1
        have HC2 := Hd.mk hc2
        clear hB' hc1 hc2
        refine (HC1.out W ρ a HA1.out).mono ?_
        rintro e W2 ⟨ρ2, rfl, H2, hs2⟩
        have H2' := Hd.mk H2
        have R2 := Hd.mk (HR1.out.step hs2 rtag_not_s)
        have S2 := Hd.mk (HS1.out.trans (hs2.mono (fun _ _ => trivial)))
        have x2 := hs2.blk0 HX1.out HX0.out
        have X2 := Hd.mk x2
        clear H2 hs2 x2
        go_wp2_with fail
        refine (HC2.out W2 ρ2 b R2.out).mono ?_
        rintro e W3 ⟨ρ3, rfl, R3, hs3⟩
        have HH3 := Hd.mk (H2'.out.step' hs3 stag_not_r)
        have HR3 := Hd.mk R3
        have HS3 := Hd.mk (S2.out.trans (hs3.mono (fun _ _ => trivial)))
        clear R3 hs3 H2' R2 S2
        go_wp2_with fail
        refine (Words_any W3 ρ3 a s' HH3.out).mono ?_
        rintro e W4 ⟨rfl, rfl⟩
        go_wp2_with fail
        refine ((counts_both HBN.out (by omega)).1 W3 ρ3 b HR3.out).mono ?_
        rintro e W4 ⟨n1, rfl, rfl⟩
        have H4 := Hd.mk (HH3.out.drewN n1)
        have R4 := Hd.mk (HR3.out.drewN n1)
        have S4 := Hd.mk (HS3.out.drewN n1)
        generalize W3.drewN n1 = W4 at *
        go_wp2_with fail
        refine (Pages_any W4 ρ3 a s' H4.out).mono ?_
        rintro e W5 ⟨rfl, rfl⟩
        go_wp2_with fail
        refine ((counts_both HBN.out (by omega)).2.1 W4 ρ3 b R4.out).mono ?_
        rintro e W5 ⟨rfl, rfl⟩
        go_wp2_with fail
        refine (Free_any W4 ρ3 a s' H4.out).mono ?_
        rintro e W5 ⟨rfl, rfl⟩
        go_wp2_with fail
        refine ((counts_both HBN.out (by omega)).2.2 W4 ρ3 b R4.out).mono ?_
        rintro e W5 ⟨n2, rfl, rfl⟩
        have H5 := Hd.mk (H4.out.drewN n2)
        have R5 := Hd.mk (R4.out.drewN n2)
        have S5 := Hd.mk (S4.out.drewN n2)
        generalize W4.drewN n2 = W5 at *
        go_wp2
        go_roundw
        case rel => exact ⟨i + 1, ρ3, s', t', by go_num, by omega, HBN.out, H5.out, R5.out, S5.out⟩
        case measure => simp [intOf]; omega
      · have em : (d : Int).tmod 8 = 1 := by rw [Int.tmod_eq_emod_of_nonneg (by omega)]; omega
        clear hm
        go_wp2_with fail
        generalize wr.alloc (.cells #[.int .u8 d, .int .i64 r, .int .i64 n, .int .i64 ad, .int .i64 f, .int .i64 v] 34) = W at *
        generalize wr.heap.size = X at *
        clear q0 q1 q2 q3 q4 q5 em
        obtain ⟨s', t', e, hB', hc1, hc2⟩ := close_both HB.out (by omega) r
        have HBN := Hd.mk (hB'.mono (Nat.le_succ i))
        have HC1 := Hd.mk hc1
        have HC2 := Hd.mk hc2
        clear hB' hc1 hc2
        have hdr := (Step.refl (fun _ => False) W ρ).drew
        have HAd := Hd.mk (HA1.out.step' hdr (by simp))
        have HRd := Hd.mk (HR1.out.step hdr (by simp))
        have HSd := Hd.mk (HS1.out.drew)
        have xd := hdr.blk0 HX1.out HX0.out
        have d1 : W.drew.cell? ⟨X, 1, none⟩ = some (.int .i64 r) := xd.1.cell (i := 1) rfl
        have HXd := Hd.mk xd
        clear hdr xd HA1 HR1 HS1 HX1 HX0
        go_region_held3 (fun wv => wv.cell? ⟨X, 1, none⟩ = some (.int .i64 r)) (first | assumption | (refine ⟨?_⟩ <;> assumption)) (first | (go_at_call 13; refine (HC1.out W.drew ρ a HAd.out).mono ?_; rintro e W2 ⟨ρ2, rfl, H2, hs2⟩; have H2' := Hd.mk H2; have R2 := Hd.mk (HRd.out.step hs2 rtag_not_s); have S2 := Hd.mk (HSd.out.trans (hs2.mono (fun _ _ => trivial))); have x2 := hs2.blk0 HXd.out.1 HXd.out.2; have f1 : W2.cell? ⟨X, 1, none⟩ = some (.int .i64 r) := x2.1.cell (i := 1) rfl; have X2 := Hd.mk x2; clear H2 hs2 x2) | (go_at_call 14; refine (HC2.out W2 ρ2 b R2.out).mono ?_; rintro e W3 ⟨ρ3, rfl, R3, hs3⟩; have HH3 := Hd.mk (H2'.out.step' hs3 stag_not_r); have HR3 := Hd.mk R3; have HS3 := Hd.mk (S2.out.trans (hs3.mono (fun _ _ => trivial))); have x3 := hs3.blk0 X2.out.1 X2.out.2; have g1 : W3.cell? ⟨X, 1, none⟩ = some (.int .i64 r) := x3.1.cell (i := 1) rfl; clear R3 hs3 x3 H2' R2 S2))
        go_wp2_with fail
        refine (Words_any W3 ρ3 a s' HH3.out).mono ?_
        rintro e W4 ⟨rfl, rfl⟩
        go_wp2_with fail
        refine ((counts_both HBN.out (by omega)).1 W3 ρ3 b HR3.out).mono ?_
        rintro e W4 ⟨n1, rfl, rfl⟩
        have H4 := Hd.mk (HH3.out.drewN n1)
        have R4 := Hd.mk (HR3.out.drewN n1)
        have S4 := Hd.mk (HS3.out.drewN n1)
        generalize W3.drewN n1 = W4 at *
        go_wp2_with fail
        refine (Pages_any W4 ρ3 a s' H4.out).mono ?_
        rintro e W5 ⟨rfl, rfl⟩
        go_wp2_with fail
        refine ((counts_both HBN.out (by omega)).2.1 W4 ρ3 b R4.out).mono ?_
        rintro e W5 ⟨rfl, rfl⟩
        go_wp2_with fail
        refine (Free_any W4 ρ3 a s' H4.out).mono ?_
        rintro e W5 ⟨rfl, rfl⟩
        go_wp2_with fail
        refine ((counts_both HBN.out (by omega)).2.2 W4 ρ3 b R4.out).mono ?_
        rintro e W5 ⟨n2, rfl, rfl⟩
        have H5 := Hd.mk (H4.out.drewN n2)
        have R5 := Hd.mk (R4.out.drewN n2)
        have S5 := Hd.mk (S4.out.drewN n2)
        generalize W4.drewN n2 = W5 at *
        go_wp2
        go_roundw
        case rel => exact ⟨i + 1, ρ3, s', t', by go_num, by omega, HBN.out, H5.out, R5.out, S5.out⟩
        case measure => simp [intOf]; omega
      · have em : (d : Int).tmod 8 = 2 := by rw [Int.tmod_eq_emod_of_nonneg (by omega)]; omega
        clear hm
        go_wp2_with fail
        generalize wr.alloc (.cells #[.int .u8 d, .int .i64 r, .int .i64 n, .int .i64 ad, .int .i64 f, .int .i64 v] 34) = W at *
        generalize wr.heap.size = X at *
        clear q0 q1 q2 q3 q4 q5 em
        obtain ⟨s', t', x, e, hB', hc1, hc2⟩ := alloc_both HB.out (by omega) r n
        have HBN := Hd.mk hB'
        have HC1 := Hd.mk hc1
        have HC2 := Hd.mk hc2
        clear hB' hc1 hc2
        refine (HC1.out W ρ a HA1.out (HS1.out.fresh (fresh0 w))).mono ?_
        rintro e W2 ⟨ρ2, rfl, H2, hs2⟩
        have H2' := Hd.mk H2
        have R2 := Hd.mk (HR1.out.step hs2 rtag_not_s)
        have S2 := Hd.mk (HS1.out.trans (hs2.mono (fun _ _ => trivial)))
        have x2 := hs2.blk0 HX1.out HX0.out
        have f1 := x2.1.cell (i := 1) rfl
        have f2 := x2.1.cell (i := 2) rfl
        have X2 := Hd.mk x2
        clear H2 hs2 x2
        go_wp2_with fail
        refine (HC2.out W2 ρ2 b R2.out).mono ?_
        rintro e W3 ⟨ρ3, rfl, R3, hs3⟩
        have HH3 := Hd.mk (H2'.out.step' hs3 stag_not_r)
        have HR3 := Hd.mk R3
        have HS3 := Hd.mk (S2.out.trans (hs3.mono (fun _ _ => trivial)))
        clear f1 f2
        clear R3 hs3 H2' R2 S2
        go_wp2_with fail
        refine (Words_any W3 ρ3 a s' HH3.out).mono ?_
        rintro e W4 ⟨rfl, rfl⟩
        go_wp2_with fail
        refine ((counts_both HBN.out (by omega)).1 W3 ρ3 b HR3.out).mono ?_
        rintro e W4 ⟨n1, rfl, rfl⟩
        have H4 := Hd.mk (HH3.out.drewN n1)
        have R4 := Hd.mk (HR3.out.drewN n1)
        have S4 := Hd.mk (HS3.out.drewN n1)
        generalize W3.drewN n1 = W4 at *
        go_wp2_with fail
        refine (Pages_any W4 ρ3 a s' H4.out).mono ?_
        rintro e W5 ⟨rfl, rfl⟩
        go_wp2_with fail
        refine ((counts_both HBN.out (by omega)).2.1 W4 ρ3 b R4.out).mono ?_
        rintro e W5 ⟨rfl, rfl⟩
        go_wp2_with fail
        refine (Free_any W4 ρ3 a s' H4.out).mono ?_
        rintro e W5 ⟨rfl, rfl⟩
        go_wp2_with fail
        refine ((counts_both HBN.out (by omega)).2.2 W4 ρ3 b R4.out).mono ?_
        rintro e W5 ⟨n2, rfl, rfl⟩
        have H5 := Hd.mk (H4.out.drewN n2)
        have R5 := Hd.mk (R4.out.drewN n2)
        have S5 := Hd.mk (S4.out.drewN n2)
        generalize W4.drewN n2 = W5 at *
        go_wp2
        go_roundw
        case rel => exact ⟨i + 1, ρ3, s', t', by go_num, by omega, HBN.out, H5.out, R5.out, S5.out⟩
        case measure => simp [intOf]; omega
      · have em : (d : Int).tmod 8 = 3 := by rw [Int.tmod_eq_emod_of_nonneg (by omega)]; omega
        clear hm
        go_wp2_with fail
        generalize wr.alloc (.cells #[.int .u8 d, .int .i64 r, .int .i64 n, .int .i64 ad, .int .i64 f, .int .i64 v] 34) = W at *
        generalize wr.heap.size = X at *
        clear q0 q1 q2 q3 q4 q5 em
        obtain ⟨s', t', x, e, hB', hc1, hc2⟩ := alloc_both HB.out (by omega) r n
        have HBN := Hd.mk hB'
        have HC1 := Hd.mk hc1
        have HC2 := Hd.mk hc2
        clear hB' hc1 hc2
        refine (HC1.out W ρ a HA1.out (HS1.out.fresh (fresh0 w))).mono ?_
        rintro e W2 ⟨ρ2, rfl, H2, hs2⟩
        have H2' := Hd.mk H2
        have R2 := Hd.mk (HR1.out.step hs2 rtag_not_s)
        have S2 := Hd.mk (HS1.out.trans (hs2.mono (fun _ _ => trivial)))
        have x2 := hs2.blk0 HX1.out HX0.out
        have f1 := x2.1.cell (i := 1) rfl
        have f2 := x2.1.cell (i := 2) rfl
        have X2 := Hd.mk x2
        clear H2 hs2 x2
        go_wp2_with fail
        refine (HC2.out W2 ρ2 b R2.out).mono ?_
        rintro e W3 ⟨ρ3, rfl, R3, hs3⟩
        have HH3 := Hd.mk (H2'.out.step' hs3 stag_not_r)
        have HR3 := Hd.mk R3
        have HS3 := Hd.mk (S2.out.trans (hs3.mono (fun _ _ => trivial)))
        clear f1 f2
        clear R3 hs3 H2' R2 S2
        go_wp2_with fail
        refine (Words_any W3 ρ3 a s' HH3.out).mono ?_
        rintro e W4 ⟨rfl, rfl⟩
        go_wp2_with fail
        refine ((counts_both HBN.out (by omega)).1 W3 ρ3 b HR3.out).mono ?_
        rintro e W4 ⟨n1, rfl, rfl⟩
        have H4 := Hd.mk (HH3.out.drewN n1)
        have R4 := Hd.mk (HR3.out.drewN n1)
        have S4 := Hd.mk (HS3.out.drewN n1)
        generalize W3.drewN n1 = W4 at *
        go_wp2_with fail
        refine (Pages_any W4 ρ3 a s' H4.out).mono ?_
        rintro e W5 ⟨rfl, rfl⟩
        go_wp2_with fail
        refine ((counts_both HBN.out (by omega)).2.1 W4 ρ3 b R4.out).mono ?_
        rintro e W5 ⟨rfl, rfl⟩
        go_wp2_with fail
        refine (Free_any W4 ρ3 a s' H4.out).mono ?_
        rintro e W5 ⟨rfl, rfl⟩
        go_wp2_with fail
        refine ((counts_both HBN.out (by omega)).2.2 W4 ρ3 b R4.out).mono ?_
        rintro e W5 ⟨n2, rfl, rfl⟩
        have H5 := Hd.mk (H4.out.drewN n2)
        have R5 := Hd.mk (R4.out.drewN n2)
        have S5 := Hd.mk (S4.out.drewN n2)
        generalize W4.drewN n2 = W5 at *
        go_wp2
        go_roundw
        case rel => exact ⟨i + 1, ρ3, s', t', by go_num, by omega, HBN.out, H5.out, R5.out, S5.out⟩
        case measure => simp [intOf]; omega
      · have em : (d : Int).tmod 8 = 4 := by rw [Int.tmod_eq_emod_of_nonneg (by omega)]; omega
        clear hm
        go_wp2_with fail
        generalize wr.alloc (.cells #[.int .u8 d, .int .i64 r, .int .i64 n, .int .i64 ad, .int .i64 f, .int .i64 v] 34) = W at *
        generalize wr.heap.size = X at *
        clear q0 q1 q2 q3 q4 q5 em
        obtain ⟨y, e, hc1, hc2⟩ := get_both HB.out (by omega) r ad f
        have HC1 := Hd.mk hc1
        have HC2 := Hd.mk hc2
        clear hc1 hc2
        refine (HC1.out W ρ a HA1.out).mono ?_
        rintro e W3 ⟨rfl, hb3⟩
        have hs3 := (Step.refl (fun _ => False) W ρ).of_below hb3
        have HH3 := Hd.mk (HA1.out.step' hs3 (by simp))
        have HR3 := Hd.mk (HR1.out.step hs3 (by simp))
        have HS3 := Hd.mk (HS1.out.of_below hb3)
        have x3 := hs3.blk0 HX1.out HX0.out
        have f1 := x3.1.cell (i := 1) rfl
        have f3 := x3.1.cell (i := 3) rfl
        have f4 := x3.1.cell (i := 4) rfl
        clear hb3 hs3 x3
        go_wp2_with fail
        refine (HC2.out W3 ρ b HR3.out).mono ?_
        rintro e W4 ⟨rfl, rfl⟩
        clear f1 f3 f4
        have HBN := Hd.mk (HB.out.mono (Nat.le_succ i))
        go_wp2_with fail
        refine (Words_any W3 ρ a s HH3.out).mono ?_
        rintro e W4 ⟨rfl, rfl⟩
        go_wp2_with fail
        refine ((counts_both HBN.out (by omega)).1 W3 ρ b HR3.out).mono ?_
        rintro e W4 ⟨n1, rfl, rfl⟩
        have H4 := Hd.mk (HH3.out.drewN n1)
        have R4 := Hd.mk (HR3.out.drewN n1)
        have S4 := Hd.mk (HS3.out.drewN n1)
        generalize W3.drewN n1 = W4 at *
        go_wp2_with fail
        refine (Pages_any W4 ρ a s H4.out).mono ?_
        rintro e W5 ⟨rfl, rfl⟩
        go_wp2_with fail
        refine ((counts_both HBN.out (by omega)).2.1 W4 ρ b R4.out).mono ?_
        rintro e W5 ⟨rfl, rfl⟩
        go_wp2_with fail
        refine (Free_any W4 ρ a s H4.out).mono ?_
        rintro e W5 ⟨rfl, rfl⟩
        go_wp2_with fail
        refine ((counts_both HBN.out (by omega)).2.2 W4 ρ b R4.out).mono ?_
        rintro e W5 ⟨n2, rfl, rfl⟩
        have H5 := Hd.mk (H4.out.drewN n2)
        have R5 := Hd.mk (R4.out.drewN n2)
        have S5 := Hd.mk (S4.out.drewN n2)
        generalize W4.drewN n2 = W5 at *
        go_wp2
        go_roundw
        case rel => exact ⟨i + 1, ρ, s, t, by go_num, by omega, HBN.out, H5.out, R5.out, S5.out⟩
        case measure => simp [intOf]; omega
      · have em : (d : Int).tmod 8 = 5 := by rw [Int.tmod_eq_emod_of_nonneg (by omega)]; omega
        clear hm
        go_wp2_with fail
        generalize wr.alloc (.cells #[.int .u8 d, .int .i64 r, .int .i64 n, .int .i64 ad, .int .i64 f, .int .i64 v] 34) = W at *
        generalize wr.heap.size = X at *
        clear q0 q1 q2 q3 q4 q5 em
        obtain ⟨s', t', e, hB', hc1, hc2⟩ := set_both HB.out (by omega) r ad f v
        have HBN := Hd.mk (hB'.mono (Nat.le_succ i))
        have HC1 := Hd.mk hc1
        have HC2 := Hd.mk hc2
        clear hB' hc1 hc2
        have hdr := (Step.refl (fun _ => False) W ρ).drew
        have HAd := Hd.mk (HA1.out.step' hdr (by simp))
        have HRd := Hd.mk (HR1.out.step hdr (by simp))
        have HSd := Hd.mk (HS1.out.drew)
        have xd := hdr.blk0 HX1.out HX0.out
        have d1 : W.drew.cell? ⟨X, 1, none⟩ = some (.int .i64 r) := xd.1.cell (i := 1) rfl
        have d3 : W.drew.cell? ⟨X, 3, none⟩ = some (.int .i64 ad) := xd.1.cell (i := 3) rfl
        have d4 : W.drew.cell? ⟨X, 4, none⟩ = some (.int .i64 f) := xd.1.cell (i := 4) rfl
        have d5 : W.drew.cell? ⟨X, 5, none⟩ = some (.int .i64 v) := xd.1.cell (i := 5) rfl
        have HXd := Hd.mk xd
        clear hdr xd HA1 HR1 HS1 HX1 HX0
        go_region_held3 (fun wv => wv.cell? ⟨X, 1, none⟩ = some (.int .i64 r) ∧ wv.cell? ⟨X, 3, none⟩ = some (.int .i64 ad) ∧ wv.cell? ⟨X, 4, none⟩ = some (.int .i64 f) ∧ wv.cell? ⟨X, 5, none⟩ = some (.int .i64 v)) (first | assumption | (refine ⟨?_, ?_, ?_, ?_⟩ <;> assumption)) (first | (go_at_call 19; refine (HC1.out W.drew ρ a HAd.out).mono ?_; rintro e W2 ⟨ρ2, rfl, H2, hs2⟩; have H2' := Hd.mk H2; have R2 := Hd.mk (HRd.out.step hs2 rtag_not_s); have S2 := Hd.mk (HSd.out.trans (hs2.mono (fun _ _ => trivial))); have x2 := hs2.blk0 HXd.out.1 HXd.out.2; have f1 : W2.cell? ⟨X, 1, none⟩ = some (.int .i64 r) := x2.1.cell (i := 1) rfl; have f3 : W2.cell? ⟨X, 3, none⟩ = some (.int .i64 ad) := x2.1.cell (i := 3) rfl; have f4 : W2.cell? ⟨X, 4, none⟩ = some (.int .i64 f) := x2.1.cell (i := 4) rfl; have f5 : W2.cell? ⟨X, 5, none⟩ = some (.int .i64 v) := x2.1.cell (i := 5) rfl; have X2 := Hd.mk x2; clear H2 hs2 x2) | (go_at_call 20; refine (HC2.out W2 ρ2 b R2.out).mono ?_; rintro e W3 ⟨ρ3, rfl, R3, hs3⟩; have HH3 := Hd.mk (H2'.out.step' hs3 stag_not_r); have HR3 := Hd.mk R3; have HS3 := Hd.mk (S2.out.trans (hs3.mono (fun _ _ => trivial))); have x3 := hs3.blk0 X2.out.1 X2.out.2; have g1 : W3.cell? ⟨X, 1, none⟩ = some (.int .i64 r) := x3.1.cell (i := 1) rfl; have g3 : W3.cell? ⟨X, 3, none⟩ = some (.int .i64 ad) := x3.1.cell (i := 3) rfl; have g4 : W3.cell? ⟨X, 4, none⟩ = some (.int .i64 f) := x3.1.cell (i := 4) rfl; have g5 : W3.cell? ⟨X, 5, none⟩ = some (.int .i64 v) := x3.1.cell (i := 5) rfl; clear R3 hs3 x3 H2' R2 S2))
        go_wp2_with fail
        refine (Words_any W3 ρ3 a s' HH3.out).mono ?_
        rintro e W4 ⟨rfl, rfl⟩
        go_wp2_with fail
        refine ((counts_both HBN.out (by omega)).1 W3 ρ3 b HR3.out).mono ?_
        rintro e W4 ⟨n1, rfl, rfl⟩
        have H4 := Hd.mk (HH3.out.drewN n1)
        have R4 := Hd.mk (HR3.out.drewN n1)
        have S4 := Hd.mk (HS3.out.drewN n1)
        generalize W3.drewN n1 = W4 at *
        go_wp2_with fail
        refine (Pages_any W4 ρ3 a s' H4.out).mono ?_
        rintro e W5 ⟨rfl, rfl⟩
        go_wp2_with fail
        refine ((counts_both HBN.out (by omega)).2.1 W4 ρ3 b R4.out).mono ?_
        rintro e W5 ⟨rfl, rfl⟩
        go_wp2_with fail
        refine (Free_any W4 ρ3 a s' H4.out).mono ?_
        rintro e W5 ⟨rfl, rfl⟩
        go_wp2_with fail
        refine ((counts_both HBN.out (by omega)).2.2 W4 ρ3 b R4.out).mono ?_
        rintro e W5 ⟨n2, rfl, rfl⟩
        have H5 := Hd.mk (H4.out.drewN n2)
        have R5 := Hd.mk (R4.out.drewN n2)
        have S5 := Hd.mk (S4.out.drewN n2)
        generalize W4.drewN n2 = W5 at *
        go_wp2
        go_roundw
        case rel => exact ⟨i + 1, ρ3, s', t', by go_num, by omega, HBN.out, H5.out, R5.out, S5.out⟩
        case measure => simp [intOf]; omega
      · have em : (d : Int).tmod 8 = 6 := by rw [Int.tmod_eq_emod_of_nonneg (by omega)]; omega
        clear hm
        go_wp2_with fail
        generalize wr.alloc (.cells #[.int .u8 d, .int .i64 r, .int .i64 n, .int .i64 ad, .int .i64 f, .int .i64 v] 34) = W at *
        generalize wr.heap.size = X at *
        clear q0 q1 q2 q3 q4 q5 em
        obtain ⟨s', t', e, hB', hc1, hc2⟩ := set_both HB.out (by omega) r ad f v
        have HBN := Hd.mk (hB'.mono (Nat.le_succ i))
        have HC1 := Hd.mk hc1
        have HC2 := Hd.mk hc2
        clear hB' hc1 hc2
        have hdr := (Step.refl (fun _ => False) W ρ).drew
        have HAd := Hd.mk (HA1.out.step' hdr (by simp))
        have HRd := Hd.mk (HR1.out.step hdr (by simp))
        have HSd := Hd.mk (HS1.out.drew)
        have xd := hdr.blk0 HX1.out HX0.out
        have d1 : W.drew.cell? ⟨X, 1, none⟩ = some (.int .i64 r) := xd.1.cell (i := 1) rfl
        have d3 : W.drew.cell? ⟨X, 3, none⟩ = some (.int .i64 ad) := xd.1.cell (i := 3) rfl
        have d4 : W.drew.cell? ⟨X, 4, none⟩ = some (.int .i64 f) := xd.1.cell (i := 4) rfl
        have d5 : W.drew.cell? ⟨X, 5, none⟩ = some (.int .i64 v) := xd.1.cell (i := 5) rfl
        have HXd := Hd.mk xd
        clear hdr xd HA1 HR1 HS1 HX1 HX0
        go_region_held3 (fun wv => wv.cell? ⟨X, 1, none⟩ = some (.int .i64 r) ∧ wv.cell? ⟨X, 3, none⟩ = some (.int .i64 ad) ∧ wv.cell? ⟨X, 4, none⟩ = some (.int .i64 f) ∧ wv.cell? ⟨X, 5, none⟩ = some (.int .i64 v)) (first | assumption | (refine ⟨?_, ?_, ?_, ?_⟩ <;> assumption)) (first | (go_at_call 19; refine (HC1.out W.drew ρ a HAd.out).mono ?_; rintro e W2 ⟨ρ2, rfl, H2, hs2⟩; have H2' := Hd.mk H2; have R2 := Hd.mk (HRd.out.step hs2 rtag_not_s); have S2 := Hd.mk (HSd.out.trans (hs2.mono (fun _ _ => trivial))); have x2 := hs2.blk0 HXd.out.1 HXd.out.2; have f1 : W2.cell? ⟨X, 1, none⟩ = some (.int .i64 r) := x2.1.cell (i := 1) rfl; have f3 : W2.cell? ⟨X, 3, none⟩ = some (.int .i64 ad) := x2.1.cell (i := 3) rfl; have f4 : W2.cell? ⟨X, 4, none⟩ = some (.int .i64 f) := x2.1.cell (i := 4) rfl; have f5 : W2.cell? ⟨X, 5, none⟩ = some (.int .i64 v) := x2.1.cell (i := 5) rfl; have X2 := Hd.mk x2; clear H2 hs2 x2) | (go_at_call 20; refine (HC2.out W2 ρ2 b R2.out).mono ?_; rintro e W3 ⟨ρ3, rfl, R3, hs3⟩; have HH3 := Hd.mk (H2'.out.step' hs3 stag_not_r); have HR3 := Hd.mk R3; have HS3 := Hd.mk (S2.out.trans (hs3.mono (fun _ _ => trivial))); have x3 := hs3.blk0 X2.out.1 X2.out.2; have g1 : W3.cell? ⟨X, 1, none⟩ = some (.int .i64 r) := x3.1.cell (i := 1) rfl; have g3 : W3.cell? ⟨X, 3, none⟩ = some (.int .i64 ad) := x3.1.cell (i := 3) rfl; have g4 : W3.cell? ⟨X, 4, none⟩ = some (.int .i64 f) := x3.1.cell (i := 4) rfl; have g5 : W3.cell? ⟨X, 5, none⟩ = some (.int .i64 v) := x3.1.cell (i := 5) rfl; clear R3 hs3 x3 H2' R2 S2))
        go_wp2_with fail
        refine (Words_any W3 ρ3 a s' HH3.out).mono ?_
        rintro e W4 ⟨rfl, rfl⟩
        go_wp2_with fail
        refine ((counts_both HBN.out (by omega)).1 W3 ρ3 b HR3.out).mono ?_
        rintro e W4 ⟨n1, rfl, rfl⟩
        have H4 := Hd.mk (HH3.out.drewN n1)
        have R4 := Hd.mk (HR3.out.drewN n1)
        have S4 := Hd.mk (HS3.out.drewN n1)
        generalize W3.drewN n1 = W4 at *
        go_wp2_with fail
        refine (Pages_any W4 ρ3 a s' H4.out).mono ?_
        rintro e W5 ⟨rfl, rfl⟩
        go_wp2_with fail
        refine ((counts_both HBN.out (by omega)).2.1 W4 ρ3 b R4.out).mono ?_
        rintro e W5 ⟨rfl, rfl⟩
        go_wp2_with fail
        refine (Free_any W4 ρ3 a s' H4.out).mono ?_
        rintro e W5 ⟨rfl, rfl⟩
        go_wp2_with fail
        refine ((counts_both HBN.out (by omega)).2.2 W4 ρ3 b R4.out).mono ?_
        rintro e W5 ⟨n2, rfl, rfl⟩
        have H5 := Hd.mk (H4.out.drewN n2)
        have R5 := Hd.mk (R4.out.drewN n2)
        have S5 := Hd.mk (S4.out.drewN n2)
        generalize W4.drewN n2 = W5 at *
        go_wp2
        go_roundw
        case rel => exact ⟨i + 1, ρ3, s', t', by go_num, by omega, HBN.out, H5.out, R5.out, S5.out⟩
        case measure => simp [intOf]; omega
      · have em : (d : Int).tmod 8 = 7 := by rw [Int.tmod_eq_emod_of_nonneg (by omega)]; omega
        clear hm
        go_wp2_with fail
        generalize wr.alloc (.cells #[.int .u8 d, .int .i64 r, .int .i64 n, .int .i64 ad, .int .i64 f, .int .i64 v] 34) = W at *
        generalize wr.heap.size = X at *
        clear q0 q1 q2 q3 q4 q5 em
        have HBN := Hd.mk (HB.out.mono (Nat.le_succ i))
        refine (Words_any W ρ a s HA1.out).mono ?_
        rintro e W4 ⟨rfl, rfl⟩
        go_wp2_with fail
        refine ((counts_both HBN.out (by omega)).1 W ρ b HR1.out).mono ?_
        rintro e W4 ⟨n1, rfl, rfl⟩
        have H4 := Hd.mk (HA1.out.drewN n1)
        have R4 := Hd.mk (HR1.out.drewN n1)
        have S4 := Hd.mk (HS1.out.drewN n1)
        generalize W.drewN n1 = W4 at *
        go_wp2_with fail
        refine (Pages_any W4 ρ a s H4.out).mono ?_
        rintro e W5 ⟨rfl, rfl⟩
        go_wp2_with fail
        refine ((counts_both HBN.out (by omega)).2.1 W4 ρ b R4.out).mono ?_
        rintro e W5 ⟨rfl, rfl⟩
        go_wp2_with fail
        refine (Free_any W4 ρ a s H4.out).mono ?_
        rintro e W5 ⟨rfl, rfl⟩
        go_wp2_with fail
        refine ((counts_both HBN.out (by omega)).2.2 W4 ρ b R4.out).mono ?_
        rintro e W5 ⟨n2, rfl, rfl⟩
        have H5 := Hd.mk (H4.out.drewN n2)
        have R5 := Hd.mk (R4.out.drewN n2)
        have S5 := Hd.mk (S4.out.drewN n2)
        generalize W4.drewN n2 = W5 at *
        go_wp2
        go_roundw
        case rel => exact ⟨i + 1, ρ, s, t, by go_num, by omega, HBN.out, H5.out, R5.out, S5.out⟩
        case measure => simp [intOf]; omega
    · have hin : i = L.length := by omega
      subst hin
      clear hA hR hB hS HA0 HR0 HS0
      go_wp2_with fail
      refine (head_any wr).mono ?_
      rintro e w9 ⟨rfl, hb⟩
      go_wp2
      go_ret
      exact ⟨rfl, (HS.out.of_below hb).below (fun _ _ => rfl)⟩

end Go.Proofs.Ytgejmgomliadmaa
