/- Append, as one operation of a region that draws its order. -/
import Derived.Test.YtgejmgomliadmaaUsI
import Derived.Laws.MakeOwn
set_option linter.unusedVariables false
namespace Go.Proofs.Ytgejmgomliadmaa
open Go Go.RowKit

theorem wp_append_ownS {P : Program} {w : World} {o : Oper} {a : Act} {K : Act → World → Prop} {Q : Exit → Act → World → Prop} (s x : Operand) (t : TypeId)
    (ho : o.op = .call { callee := .builtin .append, args := #[s, x], argTypes := #[t, t] })
    (e : TypeId) (z : Value) (size bytes : Nat) (ht : P.underlying t = some (.slice e)) (hinfo : (P.info? e).map (fun i => (i.zero, i.size, i.bytes)) = some (some z, size, bytes)) (hzs : z.cells.size = size) (hsz : 0 < size)
    (ρ : Ghost) (tg : Tag) (v : Value) (n : Nat) (xs : List Value) (hs : a.eval s = v) (hown : OwnSl w ρ tg e size v n xs)
    (ad : Addr) (m c : Nat) (news : List Value) (hx : a.eval x = .slice (some ad) m c) (hl : news.length = m * size) (hnews : ∀ j u, news[j]? = some u → w.cell? (ad.add j) = some u) (h1 : ∀ u ∈ news, u.oneCell' = true)
    (h63 : n + m ≤ maxLen) (hbytes : (n + m) * bytes ≤ 140737488355328)
    (h : ∀ v' w' ρ', OwnSl w' ρ' tg e size v' (n + m) (xs ++ news) → Step (· = tg) w ρ w' ρ' → K (a.put o.dst v') w') : Oper.wp P o a w K Q := by
  obtain ⟨i, hi, hzz⟩ := Option.map_eq_some_iff.1 hinfo
  simp only [Prod.mk.injEq] at hzz
  obtain ⟨hz0, hz1, hz2⟩ := hzz
  obtain ⟨v', w', ρ', hr, h2, h3⟩ := run_append_ownS (P := P) w t o.type e i z size bytes ht hi hz0 hz1 hz2 hzs hsz ρ tg v n xs hown ad m c news hl hnews h1 h63 hbytes
  unfold Oper.wp execOp
  simp only [ho, resolve, invoke, builtin, Sem.run_bind, Sem.run_pure, Result.andThen_ok, List.map_toArray, List.map_cons, List.map_nil, hs, hx, hr]
  exact h v' w' ρ' h2 h3

set_option maxRecDepth 100000 in
theorem make29 (W : World) (k : Nat) (hk : k ≤ 1000) : (Instr.makeSlice 29 (.int .i64 k) (.int .i64 k)).run Try.prog W = .ok (.slice (some ⟨W.heap.size, 0, none⟩) k k) (W.alloc (.cells (ints (List.replicate k 0)).toArray 2)) := by
  obtain ⟨i, hi, hzz⟩ := Option.map_eq_some_iff.1 info2
  simp only [Prod.mk.injEq] at hzz
  obtain ⟨hz0, hz1, hz2⟩ := hzz
  have h := run_makeSlice (P := Try.prog) (w := W) 29 2 i _ Try.underlying29 hi hz0 .i64 .i64 (k : Int) (k : Int) (by omega) (Int.le_refl _) (by rw [hz1]; omega) (by rw [hz2]; omega) (by omega)
  rw [hz1] at h
  simp only [Int.toNat_natCast] at h
  rw [h]
  congr 3
  apply Array.ext'
  simp [madeCells, ints, Value.cells]
  refine List.ext_getElem (by simp) (fun j h1 h2 => ?_)
  simp [Nat.mod_one]

end Go.Proofs.Ytgejmgomliadmaa
