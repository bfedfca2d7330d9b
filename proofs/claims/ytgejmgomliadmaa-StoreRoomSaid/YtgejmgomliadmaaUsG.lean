/- The laws' user: apart, room. -/
import Derived.Test.YtgejmgomliadmaaUsF
set_option linter.unusedVariables false
namespace Go.Proofs.Ytgejmgomliadmaa
open Go Go.RowKit

/-- A row of cells to be read. -/
def CelsAt (w : World) (A : Option Addr) (cs : List UC) : Prop := cs.length ≤ 1000 ∧ (∀ c ∈ cs, c.reg ≤ 1000000 ∧ c.at_ ≤ 10000000 ∧ c.fs.length ≤ 10000) ∧ ∀ (k : Nat) (c : UC), cs[k]? = some c → ∃ g, A = some ⟨g, 0, none⟩ ∧ w.cell? ⟨g, k * 3, none⟩ = some (.int .i64 c.reg) ∧ w.cell? ⟨g, k * 3 + 1, none⟩ = some (.int .i64 c.at_) ∧ w.cell? ⟨g, k * 3 + 2, none⟩ = some (.slice (some ⟨c.g, 0, none⟩) c.fs.length c.fs.length)

def smallTo (cs : List UC) (n : Int) (j : Nat) : Int := (((cs.take j).filter fun c => decide ((c.reg : Int) = n) && decide (c.fs.length ≤ 16)).map fun c => (c.fs.length : Int)).sum
def largeTo (cs : List UC) (n : Int) (j : Nat) : Int := (((cs.take j).filter fun c => decide ((c.reg : Int) = n) && decide (16 < c.fs.length)).map fun c => (((c.fs.length + 15) / 16 : Nat) : Int)).sum
def anyTo (cs : List UC) (n : Int) (j : Nat) : Bool := (cs.take j).any fun c => decide ((c.reg : Int) = n) && decide (c.fs.length ≤ 16)
theorem smallTo_succ {cs : List UC} {n : Int} {j : Nat} {c : UC} (h : cs[j]? = some c) : smallTo cs n (j + 1) = smallTo cs n j + if (c.reg : Int) = n ∧ c.fs.length ≤ 16 then (c.fs.length : Int) else 0 := by
  unfold smallTo
  rw [List.take_add_one, h, Option.toList_some, List.filter_append, List.map_append, List.sum_append]
  by_cases h1 : (c.reg : Int) = n ∧ c.fs.length ≤ 16
  · simp [h1]
  · rw [if_neg h1]
    have : (decide ((c.reg : Int) = n) && decide (c.fs.length ≤ 16)) = false := by simpa using h1
    simp [List.filter_cons, this]
theorem largeTo_succ {cs : List UC} {n : Int} {j : Nat} {c : UC} (h : cs[j]? = some c) : largeTo cs n (j + 1) = largeTo cs n j + if (c.reg : Int) = n ∧ 16 < c.fs.length then (((c.fs.length + 15) / 16 : Nat) : Int) else 0 := by
  unfold largeTo
  rw [List.take_add_one, h, Option.toList_some, List.filter_append, List.map_append, List.sum_append]
  by_cases h1 : (c.reg : Int) = n ∧ 16 < c.fs.length
  · simp [h1]
  · rw [if_neg h1]
    have : (decide ((c.reg : Int) = n) && decide (16 < c.fs.length)) = false := by simpa using h1
    simp [List.filter_cons, this]
theorem anyTo_succ {cs : List UC} {n : Int} {j : Nat} {c : UC} (h : cs[j]? = some c) : anyTo cs n (j + 1) = (anyTo cs n j || (decide ((c.reg : Int) = n) && decide (c.fs.length ≤ 16))) := by
  unfold anyTo
  rw [List.take_add_one, h, Option.toList_some, List.any_append]
  simp

theorem sums_le {cs : List UC} (h : ∀ c ∈ cs, c.reg ≤ 1000000 ∧ c.at_ ≤ 10000000 ∧ c.fs.length ≤ 10000) (n : Int) (j : Nat) (hj : j ≤ cs.length) : 0 ≤ smallTo cs n j ∧ smallTo cs n j ≤ 16 * j ∧ 0 ≤ largeTo cs n j ∧ largeTo cs n j ≤ 1000 * j := by
  induction j with
  | zero => simp [smallTo, largeTo]
  | succ j ih =>
    have hj' : j < cs.length := by omega
    obtain ⟨h1, h2, h3, h4⟩ := ih (by omega)
    obtain ⟨_, _, hb⟩ := h _ (List.getElem_mem hj')
    rw [smallTo_succ (List.getElem?_eq_getElem hj'), largeTo_succ (List.getElem?_eq_getElem hj')]
    split <;> split <;> omega
def roomOf (cs : List UC) (n : Int) : Int := if anyTo cs n cs.length then 2 * smallTo cs n cs.length / 16 + 1 + largeTo cs n cs.length else largeTo cs n cs.length
theorem room_any (w : World) (A : Option Addr) (c : Nat) (cs : List UC) (hC : CelsAt w A cs) (n : Int) :
    Calls Try.prog 30 #[.slice A cs.length c, .int .i64 n] w fun e w' => e = .returned (.int .i64 (roomOf cs n)) ∧ w = w' := by
  have hl := hC.1
  have HC := Hd.mk hC
  clear hC
  go_enter Try.func30, Try.ntmps30
  go_wp2
  go_loop [5, 6, 7, 8] (fun vs vl va vk => ∃ j : Nat, vk = .int .i64 j ∧ vs = .int .i64 (smallTo cs n j) ∧ vl = .int .i64 (largeTo cs n j) ∧ va = .bool (anyTo cs n j) ∧ j ≤ cs.length) (fun _ _ _ v => cs.length - (intOf v).toNat)
  case atStart => exact ⟨0, rfl, rfl, rfl, rfl, by omega⟩
  case round =>
    obtain ⟨j, rfl, rfl, rfl, rfl, hj⟩ := hrel
    obtain ⟨b1, b2, b3, b4⟩ := sums_le HC.out.2.1 n j hj
    by_cases hlt : j < cs.length
    · obtain ⟨g, rfl, p0, p1, p2⟩ := HC.out.2.2 j _ (List.getElem?_eq_getElem hlt)
      obtain ⟨_, _, hb⟩ := HC.out.2.1 _ (List.getElem_mem hlt)
      have HS := Hd.mk (smallTo_succ (n := n) (List.getElem?_eq_getElem hlt))
      have HL := Hd.mk (largeTo_succ (n := n) (List.getElem?_eq_getElem hlt))
      have HA := Hd.mk (anyTo_succ (n := n) (List.getElem?_eq_getElem hlt))
      generalize cs[j] = x at *
      generalize smallTo cs n j = vs at *
      generalize largeTo cs n j = vl at *
      generalize anyTo cs n j = va at *
      by_cases hr : (x.reg : Int) = n
      · by_cases h16 : 16 < x.fs.length
        · have h16i : (16 : Int) < x.fs.length := by omega
          have hq : ((x.fs.length : Int) + 16 - 1).tdiv 16 = ((x.fs.length + 15) / 16 : Nat) := by rw [Int.tdiv_eq_ediv_of_nonneg (by omega)]; omega
          have hq2 : IntKind.i64.wrap (((x.fs.length : Int) + 16 - 1).tdiv 16) = ((x.fs.length + 15) / 16 : Nat) := by rw [hq]; exact IntWalk.i64_in _ (by omega)
          have hq3 : IntKind.i64.wrap (vl + ((x.fs.length + 15) / 16 : Nat)) = vl + ((x.fs.length + 15) / 16 : Nat) := IntWalk.i64_in _ (by omega)
          have hqb : (x.fs.length + 15) / 16 ≤ 1000 := by omega
          generalize (x.fs.length + 15) / 16 = q at *
          go_wp2
          go_round
          case rel =>
            refine ⟨j + 1, by go_num, ?_, ?_, ?_, by omega⟩
            · rw [HS.out, if_neg (by omega)]; simp
            · rw [HL.out, if_pos ⟨hr, h16⟩]
            · rw [HA.out]; have : ¬ x.fs.length ≤ 16 := by omega
              simp [this]
          case measure => simp [intOf]; omega
        · have h16i : ¬ (16 : Int) < x.fs.length := by omega
          go_wp2
          go_round
          case rel =>
            refine ⟨j + 1, by go_num, ?_, ?_, ?_, by omega⟩
            · rw [HS.out, if_pos ⟨hr, by omega⟩]
            · rw [HL.out, if_neg (by omega)]; simp
            · rw [HA.out]; have : x.fs.length ≤ 16 := by omega
              simp [hr, this]
          case measure => simp [intOf]; omega
      · go_wp2
        go_round
        case rel =>
          refine ⟨j + 1, by go_num, ?_, ?_, ?_, by omega⟩
          · rw [HS.out, if_neg (by omega)]; simp
          · rw [HL.out, if_neg (by omega)]; simp
          · rw [HA.out]; simp [hr]
        case measure => simp [intOf]; omega
    · have hjl : j = cs.length := by omega
      have e1 : IntKind.i64.wrap (2 * smallTo cs n j) = 2 * smallTo cs n j := IntWalk.i64_in _ (by omega)
      have e2 : (2 * smallTo cs n j).tdiv 16 = 2 * smallTo cs n j / 16 := Int.tdiv_eq_ediv_of_nonneg (by omega)
      have HR : Hd (roomOf cs n = if anyTo cs n j then 2 * smallTo cs n j / 16 + 1 + largeTo cs n j else largeTo cs n j) := ⟨by rw [hjl]; rfl⟩
      have HJ := Hd.mk hjl
      clear hjl
      generalize smallTo cs n j = vs at *
      generalize largeTo cs n j = vl at *
      generalize anyTo cs n j = va at *
      have hnl : ¬ ((j : Int) < cs.length) := by omega
      cases va
      · go_wp2
        go_ret
        exact ⟨by rw [HR.out]; simp, rfl⟩
      · go_wp2
        go_ret
        refine ⟨?_, rfl⟩
        rw [HR.out]
        simp

end Go.Proofs.Ytgejmgomliadmaa
