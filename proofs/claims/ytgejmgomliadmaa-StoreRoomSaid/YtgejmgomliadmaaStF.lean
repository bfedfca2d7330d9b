/- The store in memory: empty. -/
import Derived.Test.YtgejmgomliadmaaStE
set_option linter.unusedVariables false
namespace Go.Proofs.Ytgejmgomliadmaa
open Go Go.RowKit

def zeroAt (l : List Int) (at_ n : Nat) : List Int := splice l at_ (List.replicate n 0)
theorem zeroAt_length {l : List Int} {a n : Nat} (h : a + n ≤ l.length) : (zeroAt l a n).length = l.length := splice_length (by simpa using h)
theorem zeroAt_next {l : List Int} {a n k : Nat} (h : a + n + k ≤ l.length) : splice (zeroAt l a n) (a + n) (List.replicate k 0) = zeroAt l a (n + k) := by
  have := splice_next (L := l) (o := a) (cs := List.replicate n (0 : Int)) (ds := List.replicate k 0) (by simpa using h)
  simp only [List.length_replicate, List.replicate_append_replicate] at this
  exact this
theorem clear_own {w : World} {ρ : Ghost} {g c np : Nat} {L : List Value} {data : List Int} {a d k : Nat} (hg : ρ g = some (3, 0)) (hb : Blk w g 75 (splice L (a + d) (List.replicate k (.int .i64 0)))) (h1 : np ≤ c) (h2 : c ≤ maxLen) (h3 : c * 16 ≤ L.length)
    (h4 : L.take (np * 16) = ints (zeroAt data a d)) (hd : data.length = np * 16) (hk : a + d + k ≤ np * 16) : OwnSl w ρ (3, 0) 75 16 (.slice (some ⟨g, 0, none⟩) np c) np (ints (zeroAt data a (d + k))) := by
  refine OwnSl.mk hg hb h1 h2 (by rw [splice_length (by simp; omega)]; exact h3) ?_
  rw [splice_take (by simp; omega) (by omega), h4, ← zeroAt_next (by omega)]
  simp only [ints, splice_map, List.map_replicate]

theorem slice_page (w : World) (g o : Nat) (lo hi : Int) (h0 : 0 ≤ lo) (h1 : lo ≤ hi) (h2 : hi ≤ 16) (h3 : lo < 16) :
    (Instr.sliceAt 75 (.pointer (some ⟨g, o, none⟩)) (some (.int .i64 lo)) (some (.int .i64 hi)) none).run Try.prog w = .ok (.slice (some ⟨g, o + lo.toNat, none⟩) (hi.toNat - lo.toNat) (16 - lo.toNat)) w := by
  have hal : Try.prog.arrayLen 75 = 16 := by kernel_rfl
  have hsz : ∀ w, (sizeOf (Try.prog.elem 75)).run Try.prog w = .ok 1 w := fun _ => by kernel_rfl
  rw [run_sliceAt_array_lh w 75 ⟨g, o, none⟩ (by kernel_rfl) .i64 .i64 lo hi h0 h1 (by rw [hal]; exact h2), hsz, hal]
  simp only [Result.andThen_ok, slicedAt, Nat.mul_one]
  rw [if_neg (by omega), add_plainO]
theorem info2 : (Try.prog.info? 2).map (fun i => (i.zero, i.size, i.bytes)) = some (some (.int .i64 0), 1, 8) := by kernel_rfl

def EmptyPost (ρ : Ghost) (vp : Value) (np : Nat) (l : List Int) (w : World) (e : Ending) (w' : World) : Prop := e = .returned (.tuple #[]) ∧ OwnSl w' ρ (3, 0) 75 16 vp np (ints l) ∧ Step (· = (3, 0)) w ρ w' ρ

set_option maxRecDepth 100000 in
theorem empty_any (w : World) (ρ : Ghost) (a : Nat) (vp : Value) (np : Nat) (data : List Int) (L : List Value) (hb : Blk w a 55 L) (hL : L[2]? = some vp) (ha : ρ a = some (1, 0)) (hO : OwnSl w ρ (3, 0) 75 16 vp np (ints data)) (at_ n : Nat) (hn : at_ + n ≤ np * 16) (hnp : np ≤ 1000000) :
    Calls Try.prog 35 #[.pointer (some ⟨a, 0, none⟩), .int .i64 at_, .int .i64 n] w (EmptyPost ρ vp np (zeroAt data at_ n) w) := by
  have h2 := hb.cell hL
  go_enter Try.func35, Try.ntmps35
  go_wp2
  have hO' := Hd.mk hO
  clear hO
  go_loopw [1, 2] (fun v1 v2 wr => ∃ d : Nat, d ≤ n ∧ v1 = .int .i64 ((at_ + d : Nat) : Int) ∧ v2 = .int .i64 ((n - d : Nat) : Int) ∧ OwnSl wr ρ (3, 0) 75 16 vp np (ints (zeroAt data at_ d)) ∧ Step (· = (3, 0)) w ρ wr ρ) (fun _ v _ => (intOf v).toNat)
  case atStart => exact ⟨0, by omega, by simp, by simp, by simpa [zeroAt, splice_nil] using hO'.out, Step.refl _ _ _⟩
  case round =>
    obtain ⟨d, hd, rfl, rfl, hO, hS⟩ := hrel
    have hdl : data.length = np * 16 := by have := hO'.out.len; rwa [ints_length] at this
    have hb' := hS.blk' hb ha (by simp)
    have h2' := hb'.cell hL
    clear h2
    generalize hm : n - d = m at *
    generalize hj : at_ + d = j at *
    have HM := Hd.mk hm
    have HJ := Hd.mk hj
    clear hm hj
    by_cases hlt : 0 < m
    · obtain ⟨g, c, L', rfl, hg, hbg, hc1, hc2, hc3, htk⟩ := hO.opn (by have := HM.out; omega)
      have HT := Hd.mk htk
      have HS := Hd.mk hS
      have HO := Hd.mk hO
      have j1 := HM.out
      have j2 := HJ.out
      have hj16 : j / 16 < np := by omega
      have hjm : j + m ≤ np * 16 := by omega
      have hmb : m ≤ 16000000 := by omega
      have HL' : np * 16 ≤ L'.length := by omega
      clear htk hS hO hb' j1 j2
      unfold maxLen at hc2
      by_cases hle : j % 16 + m < 16
      · have hle' : (j : Int) % 16 + m < 16 := by omega
        have hsl := slice_page wr g (j / 16 * 16) ((j : Int) % 16) ((j : Int) % 16 + m) (by omega) (by omega) (by omega) (by omega)
        have t1 : ((j : Int) % 16).toNat = j % 16 := by omega
        have t2 : ((j : Int) % 16 + m).toNat = j % 16 + m := by omega
        rw [t1, t2, show j / 16 * 16 + j % 16 = j by omega, show j % 16 + m - j % 16 = m by omega] at hsl
        clear t1 t2
        go_wp2_with (with_reducible refine wpList_clearB rfl _ 29 rfl 2 _ 8 Try.underlying29 info2 rfl rfl g j m _ 75 L' rfl hbg ?c1 hlt ρ (3, 0) hg ?c2)
        case c1 => omega
        case c2 =>
        intro w2 hb2 hS2
        have HS2 := Hd.mk (HS.out.trans hS2)
        have HO2 : Hd (OwnSl w2 ρ (3, 0) 75 16 (.slice (some ⟨g, 0, none⟩) np c) np (ints (zeroAt data at_ (d + m)))) := ⟨by
          have e := HJ.out
          rw [← e] at hb2
          exact clear_own hg hb2 hc1 (by unfold maxLen; omega) hc3 HT.out hdl (by omega)⟩
        clear hS2 hsl
        go_wp2
        go_roundw
        case rel =>
          have e1 := HJ.out
          have e2 := HM.out
          refine ⟨d + m, by omega, ?_, ?_, HO2.out, HS2.out⟩
          · congr 1; omega
          · congr 1; omega
        case measure => simp [intOf]; omega
      · have hle' : 16 ≤ (j : Int) % 16 + m := by omega
        obtain ⟨k, hk⟩ : ∃ k, k = 16 - j % 16 := ⟨_, rfl⟩
        have hk1 : 0 < k := by omega
        have hk2 : k ≤ m := by omega
        have hsl := slice_page wr g (j / 16 * 16) ((j : Int) % 16) 16 (by omega) (by omega) (by omega) (by omega)
        have t1 : ((j : Int) % 16).toNat = j % 16 := by omega
        rw [t1, show j / 16 * 16 + j % 16 = j by omega, show (16 : Int).toNat - j % 16 = k by omega, show 16 - j % 16 = k by omega] at hsl
        have HK := Hd.mk hk
        clear t1 hk
        go_wp2_with (with_reducible refine wpList_clearB rfl _ 29 rfl 2 _ 8 Try.underlying29 info2 rfl rfl g j k _ 75 L' rfl hbg ?c1 hk1 ρ (3, 0) hg ?c2)
        case c1 => omega
        case c2 =>
        intro w2 hb2 hS2
        have HS2 := Hd.mk (HS.out.trans hS2)
        have HO2 : Hd (OwnSl w2 ρ (3, 0) 75 16 (.slice (some ⟨g, 0, none⟩) np c) np (ints (zeroAt data at_ (d + k)))) := ⟨by
          have e := HJ.out
          rw [← e] at hb2
          exact clear_own hg hb2 hc1 (by unfold maxLen; omega) hc3 HT.out hdl (by omega)⟩
        clear hS2 hsl
        go_wp2
        go_roundw
        case rel =>
          have e1 := HJ.out
          have e2 := HM.out
          have e3 := HK.out
          refine ⟨d + k, by omega, ?_, ?_, HO2.out, HS2.out⟩
          · congr 1; omega
          · congr 1; omega
        case measure => have e3 := HK.out; simp [intOf]; omega
    · have hm0 : m ≤ 0 := by omega
      have HO := Hd.mk hO
      have HS := Hd.mk hS
      clear hO hS hb'
      go_wp2
      go_end0
      have e2 := HM.out
      have e : d = n := by omega
      subst e
      exact ⟨rfl, HO.out, HS.out⟩

end Go.Proofs.Ytgejmgomliadmaa
