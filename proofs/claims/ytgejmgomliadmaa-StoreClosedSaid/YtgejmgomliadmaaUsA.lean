/- The laws' user in memory: around, apart, same, room. -/
import Derived.Test.YtgejmgomliadmaaPuI
import Derived.Deep.RegionHeld3
set_option linter.unusedVariables false
namespace Go.Proofs.Ytgejmgomliadmaa
open Go Go.RowKit

/-- A cell as the user remembers it: its region, its address, the block of its fields, what was set. -/
structure UC where
  reg : Nat
  at_ : Nat
  g : Nat
  fs : List Int
def UC.cel (c : UC) : Cel := ⟨c.reg, c.at_, c.fs.length⟩
structure USt where
  s : PSt
  many : Nat
  opn : List Int
  cs : List UC
  large : Bool
def cellV (c : UC) : List Value := [.int .i64 c.reg, .int .i64 c.at_, .slice (some ⟨c.g, 0, none⟩) c.fs.length c.fs.length]
def cellsV (cs : List UC) : List Value := cs.flatMap cellV
theorem cellsV_length (cs : List UC) : (cellsV cs).length = cs.length * 3 := by
  induction cs with
  | nil => rfl
  | cons c cs ih => simp [cellsV, cellV] at ih ⊢; omega
theorem cellsV_get {cs : List UC} {k : Nat} {c : UC} (h : cs[k]? = some c) : (cellsV cs)[k * 3]? = some (.int .i64 c.reg) ∧ (cellsV cs)[k * 3 + 1]? = some (.int .i64 c.at_) ∧ (cellsV cs)[k * 3 + 2]? = some (.slice (some ⟨c.g, 0, none⟩) c.fs.length c.fs.length) := by
  induction cs generalizing k with
  | nil => simp at h
  | cons d cs ih =>
    cases k with
    | zero =>
      simp only [List.getElem?_cons_zero, Option.some.injEq] at h
      subst h
      simp [cellsV, cellV]
    | succ k =>
      rw [List.getElem?_cons_succ] at h
      obtain ⟨h1, h2, h3⟩ := ih h
      have e : cellsV (d :: cs) = cellV d ++ cellsV cs := by simp [cellsV]
      have hl : (cellV d).length = 3 := rfl
      rw [e]
      refine ⟨?_, ?_, ?_⟩
      · rw [List.getElem?_append_right (by omega), hl, show (k + 1) * 3 - 3 = k * 3 by omega]; exact h1
      · rw [List.getElem?_append_right (by omega), hl, show (k + 1) * 3 + 1 - 3 = k * 3 + 1 by omega]; exact h2
      · rw [List.getElem?_append_right (by omega), hl, show (k + 1) * 3 + 2 - 3 = k * 3 + 2 by omega]; exact h3

structure URepAt (w : World) (ρ : Ghost) (u a : Nat) (S : USt) (ko kc : Nat) (vo vc : Value) : Prop where
  blk : Blk w u 45 [.pointer (some ⟨a, 0, none⟩), .int .i64 S.many, vo, vc, .bool S.large]
  tag : ρ u = some (10, 0)
  st : Rep w ρ a S.s
  o : OwnSl w ρ (11, ko) 3 1 vo S.opn.length (ints S.opn)
  c : OwnSl w ρ (12, kc) 50 3 vc S.cs.length (cellsV S.cs)
  f : ∀ c ∈ S.cs, Blk w c.g 2 (ints c.fs) ∧ ρ c.g = some (13, 0)
  nd : (S.cs.map UC.g).Nodup
def URep (w : World) (ρ : Ghost) (u : Nat) (S : USt) : Prop := ∃ a ko kc vo vc, URepAt w ρ u a S ko kc vo vc
/-- The tags of a user. -/
def UTag (t : Tag) : Prop := STag t ∨ (10 ≤ t.1 ∧ t.1 ≤ 13)

/-! ### around -/
theorem around_any (w : World) (n m : Int) (hm : 1 ≤ m ∧ m ≤ 1000000) :
    Calls Try.prog 42 #[.int .i64 n, .int .i64 m] w fun e w' => e = .returned (.int .i64 (n % m)) ∧ w = w' := by
  have h1 : n.tmod m = n - m * (n.tdiv m) := by have := Int.tmod_add_mul_tdiv n m; omega
  have h2 : -m < n.tmod m := Int.lt_tmod_of_pos n (by omega)
  have h3 : n.tmod m < m := Int.tmod_lt_of_pos n (by omega)
  have h4 : n % m = if n.tmod m < 0 then n.tmod m + m else n.tmod m := by
    have h5 := Int.emod_nonneg n (show m ≠ 0 by omega)
    have h6 := Int.emod_lt_of_pos n (show 0 < m by omega)
    have h7 : (n.tmod m) % m = n % m := by rw [h1]; exact Int.sub_mul_emod_self_left n m (n.tdiv m)
    split
    · rw [← h7, ← Int.add_emod_right]; exact Int.emod_eq_of_lt (by omega) (by omega)
    · rw [← h7]; exact Int.emod_eq_of_lt (by omega) (by omega)
  have hm0 : m ≠ 0 := by omega
  rw [h4]
  generalize hk : n.tmod m = k at *
  have hK := Hd.mk hk
  by_cases hlt : k < 0
  · rw [if_pos hlt]
    have e1 : IntKind.i64.wrap (n.tmod m) = k := by rw [hk]; exact IntWalk.i64_in _ (by omega)
    clear h1 h4
    go_enter Try.func42, Try.ntmps42
    go_wp2
    go_ret
    exact ⟨rfl, rfl⟩
  · rw [if_neg hlt]
    have e1 : IntKind.i64.wrap (n.tmod m) = k := by rw [hk]; exact IntWalk.i64_in _ (by omega)
    clear h1 h4
    go_enter Try.func42, Try.ntmps42
    go_wp2
    go_ret
    exact ⟨rfl, rfl⟩

theorem around_nat (n : Int) (l : Nat) (hl : 1 ≤ l) (hl2 : l ≤ 1000000) : ∃ k : Nat, k < l ∧ ∀ w : World, Calls Try.prog 42 #[.int .i64 n, .int .i64 l] w (fun e w' => e = .returned (.int .i64 k) ∧ w' = w) ∧ Calls Try.prog 42 #[.int .i64 n, .int .i64 l] w (fun e w' => e = .returned (.int .i64 k) ∧ w = w') := by
  obtain ⟨k, hk⟩ := Int.eq_ofNat_of_zero_le (Int.emod_nonneg n (show (l : Int) ≠ 0 by omega))
  have h2 := Int.emod_lt_of_pos n (show (0 : Int) < l by omega)
  refine ⟨k, by omega, fun w => ?_⟩
  have h := around_any w n l (by omega)
  rw [hk] at h
  exact ⟨h.mono (fun e w' ⟨h1, h2⟩ => ⟨h1, h2.symm⟩), h⟩

end Go.Proofs.Ytgejmgomliadmaa
