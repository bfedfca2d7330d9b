/- Blocks of memory, a ghost map that says who owns which block, slices that are owned: general lemmas for walks. -/
import Derived.WalkKit
import Derived.KernelRfl
import Derived.Deep.AppendLies
import Derived.Laws.IdiomCopy
import Derived.Deep.Draws
set_option linter.unusedVariables false
namespace Go.Proofs.Ytgejmgomliadmaa
open Go Go.RowKit

/-- A fact that the walk does not look into. -/
structure Hd (p : Prop) : Prop where mk :: (out : p)

/-! ### Blocks -/
def Blk (w : World) (b : Nat) (T : TypeId) (L : List Value) : Prop := w.heap[b]? = some (.cells L.toArray T (0, 0))

theorem Blk.lt {w : World} {b : Nat} {T : TypeId} {L : List Value} (h : Blk w b T L) : b < w.heap.size := lt_of_block h
theorem Blk.at {w : World} {b : Nat} {T : TypeId} {L : List Value} (h : Blk w b T L) (i : Nat) : w.cell? ⟨b, i, none⟩ = L[i]? := by
  unfold Blk at h
  simp [World.cell?, h]
theorem Blk.cell {w : World} {b : Nat} {T : TypeId} {L : List Value} (h : Blk w b T L) {i : Nat} {v : Value} (hi : L[i]? = some v) : w.cell? ⟨b, i, none⟩ = some v := by rw [h.at, hi]
theorem Blk.free {w : World} {b : Nat} {T : TypeId} {L : List Value} (h : Blk w b T L) (i : Nat) : w.frozen? ⟨b, i, none⟩ = false := by
  unfold Blk at h
  simp [World.frozen?, h]
theorem Blk.eq {w : World} {b : Nat} {T T' : TypeId} {L L' : List Value} (h : Blk w b T L) (h' : Blk w b T' L') : T = T' ∧ L = L' := by
  unfold Blk at h h'
  rw [h] at h'
  simp only [Option.some.injEq, Obj.cells.injEq] at h'
  obtain ⟨h1, h2, _⟩ := h'
  exact ⟨h2, by simpa using congrArg Array.toList h1⟩
theorem Blk.shape {w : World} {b : Nat} {T : TypeId} {L : List Value} (h : Blk w b T L) : w.shape? b = some (T, L.length) := by
  unfold Blk at h
  simp [World.shape?, h]
theorem Blk.setCell {w : World} {b : Nat} {T : TypeId} {L : List Value} (h : Blk w b T L) (i : Nat) (v : Value) : Blk (w.setCell ⟨b, i, none⟩ v) b T (L.set i v) := by
  unfold Blk at h ⊢
  simp only [World.setCell]
  rw [Array.getElem?_modify, if_pos rfl, h]
  simp
theorem Blk.setCell_ne {w : World} {b : Nat} {T : TypeId} {L : List Value} (h : Blk w b T L) {a : Addr} (v : Value) (hne : b ≠ a.block) : Blk (w.setCell a v) b T L := by
  unfold Blk at h ⊢
  rw [Below.heap_setCell w a v b hne, h]
theorem Blk.alloc {w : World} {b : Nat} {T : TypeId} {L : List Value} (h : Blk w b T L) (o : Obj) : Blk (w.alloc o) b T L := by
  have hb := h.lt
  unfold Blk at h ⊢
  rw [Below.heap_alloc w o b hb, h]
theorem Blk.new (w : World) (L : List Value) (T : TypeId) : Blk (w.alloc (.cells L.toArray T)) w.heap.size T L := by
  unfold Blk
  exact heap_alloc_new w _
theorem Blk.new' (w : World) (A : Array Value) (T : TypeId) : Blk (w.alloc (.cells A T)) w.heap.size T A.toList := by
  unfold Blk
  exact heap_alloc_new w _
theorem Blk.drew {w : World} {b : Nat} {T : TypeId} {L : List Value} (h : Blk w b T L) : Blk w.drew b T L := h
theorem Blk.drewN {w : World} {b : Nat} {T : TypeId} {L : List Value} (h : Blk w b T L) (n : Nat) : Blk (w.drewN n) b T L := h
theorem Blk.of_heap {w w' : World} {b : Nat} {T : TypeId} {L : List Value} (h : Blk w b T L) (he : w'.heap[b]? = w.heap[b]?) : Blk w' b T L := by
  unfold Blk at h ⊢
  rw [he, h]

/-! ### Who owns which block -/
abbrev Tag := Nat × Nat
abbrev Ghost := Nat → Option Tag
def Ghost.put (ρ : Ghost) (b : Nat) (t : Tag) : Ghost := fun k => if k = b then some t else ρ k
theorem Ghost.put_same (ρ : Ghost) (b : Nat) (t : Tag) : ρ.put b t b = some t := by simp [Ghost.put]
theorem Ghost.put_ne (ρ : Ghost) {b k : Nat} (t : Tag) (h : k ≠ b) : ρ.put b t k = ρ k := by simp [Ghost.put, h]
/-- Nothing is owned that is not there yet. -/
def Fresh (w : World) (ρ : Ghost) : Prop := ∀ k, w.heap.size ≤ k → ρ k = none

structure Step (T : Tag → Prop) (w : World) (ρ : Ghost) (w' : World) (ρ' : Ghost) : Prop where
  os : w'.os = w.os
  tape : w'.tape = w.tape
  output : w'.output = w.output
  size : w.heap.size ≤ w'.heap.size
  ghost : ∀ k, k < w.heap.size → ρ' k = ρ k
  block : ∀ k, k < w.heap.size → (∀ t, ρ k = some t → ¬ T t) → w'.heap[k]? = w.heap[k]?
  fresh : Fresh w ρ → Fresh w' ρ'

theorem Step.refl (T : Tag → Prop) (w : World) (ρ : Ghost) : Step T w ρ w ρ := ⟨rfl, rfl, rfl, Nat.le_refl _, fun _ _ => rfl, fun _ _ _ => rfl, id⟩
theorem Step.trans {T : Tag → Prop} {w w1 w2 : World} {ρ ρ1 ρ2 : Ghost} (h : Step T w ρ w1 ρ1) (k : Step T w1 ρ1 w2 ρ2) : Step T w ρ w2 ρ2 where
  os := k.os.trans h.os
  tape := k.tape.trans h.tape
  output := k.output.trans h.output
  size := Nat.le_trans h.size k.size
  ghost := fun i hi => (k.ghost i (Nat.lt_of_lt_of_le hi h.size)).trans (h.ghost i hi)
  block := fun i hi hn => (k.block i (Nat.lt_of_lt_of_le hi h.size) (fun t ht => hn t (by rw [← h.ghost i hi]; exact ht))).trans (h.block i hi hn)
  fresh := fun f => k.fresh (h.fresh f)
theorem Step.mono {T T' : Tag → Prop} {w w1 : World} {ρ ρ1 : Ghost} (h : Step T w ρ w1 ρ1) (hT : ∀ t, T t → T' t) : Step T' w ρ w1 ρ1 :=
  ⟨h.os, h.tape, h.output, h.size, h.ghost, fun k hk hn => h.block k hk (fun t ht hTt => hn t ht (hT t hTt)), h.fresh⟩
theorem Step.setCell {T : Tag → Prop} {w w1 : World} {ρ ρ1 : Ghost} (h : Step T w ρ w1 ρ1) {a : Addr} {t : Tag} (ht : ρ1 a.block = some t) (hT : T t) (v : Value) : Step T w ρ (w1.setCell a v) ρ1 where
  os := h.os
  tape := h.tape
  output := h.output
  size := by simpa using h.size
  ghost := h.ghost
  block := fun k hk hn => by
    have hne : k ≠ a.block := by
      rintro rfl
      exact hn t (by rw [← h.ghost _ hk]; exact ht) hT
    rw [Below.heap_setCell w1 a v k hne]
    exact h.block k hk hn
  fresh := fun f => by
    have := h.fresh f
    intro k hk
    exact this k (by simpa using hk)
/-- A store into a block of the call's own that no ghost knows. -/
theorem Step.setCell_new {T : Tag → Prop} {w w1 : World} {ρ ρ1 : Ghost} (h : Step T w ρ w1 ρ1) {a : Addr} (ht : w.heap.size ≤ a.block) (v : Value) : Step T w ρ (w1.setCell a v) ρ1 where
  os := h.os
  tape := h.tape
  output := h.output
  size := by simpa using h.size
  ghost := h.ghost
  block := fun k hk hn => by
    have hne : k ≠ a.block := by omega
    rw [Below.heap_setCell w1 a v k hne]
    exact h.block k hk hn
  fresh := fun f => by
    have := h.fresh f
    intro k hk
    exact this k (by simpa using hk)
theorem Step.alloc {T : Tag → Prop} {w w1 : World} {ρ ρ1 : Ghost} (h : Step T w ρ w1 ρ1) (o : Obj) : Step T w ρ (w1.alloc o) ρ1 where
  os := h.os
  tape := h.tape
  output := h.output
  size := by have := h.size; simp; omega
  ghost := h.ghost
  block := fun k hk hn => by
    rw [Below.heap_alloc w1 o k (Nat.lt_of_lt_of_le hk h.size)]
    exact h.block k hk hn
  fresh := fun f => by
    have := h.fresh f
    intro k hk
    exact this k (by simp at hk; omega)
theorem Step.alloc_tag {T : Tag → Prop} {w w1 : World} {ρ ρ1 : Ghost} (h : Step T w ρ w1 ρ1) (o : Obj) (t : Tag) : Step T w ρ (w1.alloc o) (ρ1.put w1.heap.size t) where
  os := h.os
  tape := h.tape
  output := h.output
  size := by have := h.size; simp; omega
  ghost := fun k hk => by
    have := h.size
    rw [Ghost.put_ne _ _ (by omega)]
    exact h.ghost k hk
  block := fun k hk hn => by
    rw [Below.heap_alloc w1 o k (Nat.lt_of_lt_of_le hk h.size)]
    exact h.block k hk hn
  fresh := fun f => by
    have := h.fresh f
    intro k hk
    simp at hk
    rw [Ghost.put_ne _ _ (by omega)]
    exact this k (by omega)
theorem Step.drew {T : Tag → Prop} {w w1 : World} {ρ ρ1 : Ghost} (h : Step T w ρ w1 ρ1) : Step T w ρ w1.drew ρ1 := ⟨h.os, h.tape, h.output, h.size, h.ghost, h.block, h.fresh⟩
theorem Step.drewN {T : Tag → Prop} {w w1 : World} {ρ ρ1 : Ghost} (h : Step T w ρ w1 ρ1) (n : Nat) : Step T w ρ (w1.drewN n) ρ1 := ⟨h.os, h.tape, h.output, h.size, h.ghost, h.block, h.fresh⟩
theorem Step.blk {T : Tag → Prop} {w w1 : World} {ρ ρ1 : Ghost} (h : Step T w ρ w1 ρ1) {b : Nat} {ty : TypeId} {L : List Value} (hb : Blk w b ty L) (hn : ∀ t, ρ b = some t → ¬ T t) : Blk w1 b ty L := hb.of_heap (h.block b hb.lt hn)
theorem Step.blk' {T : Tag → Prop} {w w1 : World} {ρ ρ1 : Ghost} (h : Step T w ρ w1 ρ1) {b : Nat} {ty : TypeId} {L : List Value} {t : Tag} (hb : Blk w b ty L) (ht : ρ b = some t) (hn : ¬ T t) : Blk w1 b ty L := h.blk hb (fun t' h' => by rw [ht] at h'; cases h'; exact hn)
theorem Step.tag {T : Tag → Prop} {w w1 : World} {ρ ρ1 : Ghost} (h : Step T w ρ w1 ρ1) {b : Nat} {t : Option Tag} (hb : b < w.heap.size) (ht : ρ b = t) : ρ1 b = t := (h.ghost b hb).trans ht
theorem Step.below {T : Tag → Prop} {w w1 : World} {ρ ρ1 : Ghost} (h : Step T w ρ w1 ρ1) (h0 : ∀ k, k < w.heap.size → ρ k = none) : Below w.heap.size w w1 :=
  ⟨h.os, h.tape, h.output, h.size, fun k hk => h.block k hk (fun t ht => by rw [h0 k hk] at ht; cases ht)⟩
/-- What a contract that only says 'Below' leaves. -/
theorem Step.of_below {T : Tag → Prop} {w w1 w2 : World} {ρ ρ1 : Ghost} (h : Step T w ρ w1 ρ1) (hb : Below w1.heap.size w1 w2) : Step T w ρ w2 ρ1 where
  os := hb.os.trans h.os
  tape := hb.tape.trans h.tape
  output := hb.output.trans h.output
  size := Nat.le_trans h.size hb.size
  ghost := h.ghost
  block := fun k hk hn => (hb.block k (Nat.lt_of_lt_of_le hk h.size)).trans (h.block k hk hn)
  fresh := fun f => by
    have := h.fresh f
    intro k hk
    exact this k (Nat.le_trans hb.size hk)

/-! ### Slices that are owned -/
def OwnSl (w : World) (ρ : Ghost) (t : Tag) (e : TypeId) (sz : Nat) (v : Value) (n : Nat) (xs : List Value) : Prop :=
  xs.length = n * sz ∧ ((v = .slice none 0 0 ∧ n = 0) ∨
    ∃ g cap L, v = .slice (some ⟨g, 0, none⟩) n cap ∧ ρ g = some t ∧ Blk w g e L ∧ n ≤ cap ∧ cap ≤ maxLen ∧ cap * sz ≤ L.length ∧ L.take (n * sz) = xs)

theorem OwnSl.nil (w : World) (ρ : Ghost) (t : Tag) (e : TypeId) (sz : Nat) : OwnSl w ρ t e sz (.slice none 0 0) 0 [] := ⟨by simp, .inl ⟨rfl, rfl⟩⟩
theorem OwnSl.len {w : World} {ρ : Ghost} {t : Tag} {e : TypeId} {sz : Nat} {v : Value} {n : Nat} {xs : List Value} (h : OwnSl w ρ t e sz v n xs) : xs.length = n * sz := h.1
theorem OwnSl.form {w : World} {ρ : Ghost} {t : Tag} {e : TypeId} {sz : Nat} {v : Value} {n : Nat} {xs : List Value} (h : OwnSl w ρ t e sz v n xs) : ∃ A c, v = .slice A n c ∧ n ≤ c ∧ c ≤ maxLen := by
  rcases h.2 with ⟨rfl, rfl⟩ | ⟨g, cap, L, rfl, _, _, h1, h2, _⟩
  · exact ⟨none, 0, rfl, Nat.le_refl _, Nat.zero_le _⟩
  · exact ⟨_, _, rfl, h1, h2⟩
theorem OwnSl.some {w : World} {ρ : Ghost} {t : Tag} {e : TypeId} {sz : Nat} {v : Value} {n : Nat} {xs : List Value} (h : OwnSl w ρ t e sz v n xs) (hn : 0 < n) :
    ∃ g c, v = .slice (some ⟨g, 0, none⟩) n c ∧ ρ g = some t ∧ n ≤ c ∧ c ≤ maxLen ∧ (∀ i, i < n * sz → w.cell? ⟨g, i, none⟩ = xs[i]?) ∧ (∀ i, w.frozen? ⟨g, i, none⟩ = false) ∧ g < w.heap.size := by
  rcases h.2 with ⟨rfl, rfl⟩ | ⟨g, cap, L, rfl, hr, hb, h1, h2, h3, h4⟩
  · omega
  · refine ⟨g, cap, rfl, hr, h1, h2, fun i hi => ?_, hb.free, hb.lt⟩
    rw [hb.at, ← h4, List.getElem?_take]
    simp [hi]
theorem OwnSl.step {T : Tag → Prop} {w w1 : World} {ρ ρ1 : Ghost} {t : Tag} {e : TypeId} {sz : Nat} {v : Value} {n : Nat} {xs : List Value} (h : OwnSl w ρ t e sz v n xs) (hs : Step T w ρ w1 ρ1) (hT : ¬ T t) : OwnSl w1 ρ1 t e sz v n xs := by
  refine ⟨h.1, ?_⟩
  rcases h.2 with h | ⟨g, cap, L, h0, hr, hb, h1, h2, h3, h4⟩
  · exact .inl h
  · exact .inr ⟨g, cap, L, h0, hs.tag hb.lt hr, hs.blk' hb hr hT, h1, h2, h3, h4⟩
/-- A store into the slice's own row. -/
theorem OwnSl.set {w : World} {ρ : Ghost} {t : Tag} {e : TypeId} {sz : Nat} {g n c : Nat} {xs : List Value} (h : OwnSl w ρ t e sz (.slice (.some ⟨g, 0, none⟩) n c) n xs) (i : Nat) (u : Value) :
    OwnSl (w.setCell ⟨g, i, none⟩ u) ρ t e sz (.slice (.some ⟨g, 0, none⟩) n c) n (xs.set i u) := by
  refine ⟨by simpa using h.1, ?_⟩
  rcases h.2 with ⟨h, _⟩ | ⟨g', cap, L, h0, hr, hb, h1, h2, h3, h4⟩
  · cases h
  · injection h0 with ha _ hc
    injection ha with ha
    injection ha with ha
    subst ha; subst hc
    refine .inr ⟨g, c, L.set i u, rfl, hr, hb.setCell i u, h1, h2, by simpa using h3, ?_⟩
    rw [List.take_set, h4]
/-- A store elsewhere. -/
theorem OwnSl.set_ne {w : World} {ρ : Ghost} {t : Tag} {e : TypeId} {sz : Nat} {v : Value} {n : Nat} {xs : List Value} (h : OwnSl w ρ t e sz v n xs) {a : Addr} (u : Value) (hne : ρ a.block ≠ Option.some t) :
    OwnSl (w.setCell a u) ρ t e sz v n xs := by
  refine ⟨h.1, ?_⟩
  rcases h.2 with h | ⟨g, cap, L, h0, hr, hb, h1, h2, h3, h4⟩
  · exact .inl h
  · exact .inr ⟨g, cap, L, h0, hr, hb.setCell_ne u (by rintro rfl; exact hne hr), h1, h2, h3, h4⟩
theorem OwnSl.alloc {w : World} {ρ : Ghost} {t : Tag} {e : TypeId} {sz : Nat} {v : Value} {n : Nat} {xs : List Value} (h : OwnSl w ρ t e sz v n xs) (o : Obj) : OwnSl (w.alloc o) ρ t e sz v n xs := by
  refine ⟨h.1, ?_⟩
  rcases h.2 with h | ⟨g, cap, L, h0, hr, hb, h1, h2, h3, h4⟩
  · exact .inl h
  · exact .inr ⟨g, cap, L, h0, hr, hb.alloc o, h1, h2, h3, h4⟩
theorem OwnSl.drew {w : World} {ρ : Ghost} {t : Tag} {e : TypeId} {sz : Nat} {v : Value} {n : Nat} {xs : List Value} (h : OwnSl w ρ t e sz v n xs) : OwnSl w.drew ρ t e sz v n xs := h
theorem OwnSl.drewN {w : World} {ρ : Ghost} {t : Tag} {e : TypeId} {sz : Nat} {v : Value} {n : Nat} {xs : List Value} (h : OwnSl w ρ t e sz v n xs) (k : Nat) : OwnSl (w.drewN k) ρ t e sz v n xs := h
/-- A row that has just been made. -/
theorem OwnSl.made (w : World) (ρ : Ghost) (t : Tag) (e : TypeId) (sz n : Nat) (xs : List Value) (hl : xs.length = n * sz) (hm : n ≤ maxLen) :
    OwnSl (w.alloc (.cells xs.toArray e)) (ρ.put w.heap.size t) t e sz (.slice (Option.some ⟨w.heap.size, 0, none⟩) n n) n xs :=
  ⟨hl, .inr ⟨_, n, xs, rfl, Ghost.put_same _ _ _, Blk.new w xs e, Nat.le_refl _, hm, by omega, by rw [← hl, List.take_length]⟩⟩
/-- The first elements of an owned slice, its capacity cut or not. -/
theorem OwnSl.cut {w : World} {ρ : Ghost} {t : Tag} {e : TypeId} {sz : Nat} {A : Option Addr} {n c : Nat} {xs : List Value} (h : OwnSl w ρ t e sz (.slice A n c) n xs) (m c' : Nat) (hm : m ≤ n) (hc : c' ≤ c) (hmc : m ≤ c') (hA : A = none → c' = 0) :
    OwnSl w ρ t e sz (.slice A m c') m (xs.take (m * sz)) := by
  have hl : m * sz ≤ n * sz := Nat.mul_le_mul_right _ hm
  refine ⟨by rw [List.length_take, h.1]; omega, ?_⟩
  rcases h.2 with ⟨h, h0⟩ | ⟨g, cap, L, h0, hr, hb, h1, h2, h3, h4⟩
  · injection h with h1 h2 h3
    subst h1; subst h3
    refine .inl ⟨?_, by omega⟩
    rw [hA rfl, show m = 0 by omega]
  · injection h0 with ha _ hc0
    subst ha; subst hc0
    refine .inr ⟨g, c', L, rfl, hr, hb, hmc, by omega, Nat.le_trans (Nat.mul_le_mul_right _ hc) h3, ?_⟩
    rw [← h4, List.take_take, Nat.min_eq_left hl]

/-! ### append onto an owned slice -/
section
variable {P : Program} (w : World)
theorem run_append_ownS (t ty e : TypeId) (i : TypeInfo) (z : Value) (size bytes : Nat) (ht : P.underlying t = some (.slice e)) (hi : P.info? e = some i) (hz : i.zero = some z)
    (hsize : i.size = size) (hby : i.bytes = bytes) (hzs : z.cells.size = size) (hsz : 0 < size) (ρ : Ghost) (tg : Tag)
    (v : Value) (n : Nat) (xs : List Value) (hown : OwnSl w ρ tg e size v n xs)
    (a : Addr) (m c : Nat) (news : List Value) (hl : news.length = m * size) (hnews : ∀ j u, news[j]? = some u → w.cell? (a.add j) = some u) (h1 : ∀ u ∈ news, u.oneCell' = true)
    (h63 : n + m ≤ maxLen) (hbytes : (n + m) * bytes ≤ 140737488355328) :
    ∃ v' w' ρ', (Builtin.append_ #[t, t] ty #[v, .slice (some a) m c]).run P w = .ok v' w' ∧ OwnSl w' ρ' tg e size v' (n + m) (xs ++ news) ∧ Step (· = tg) w ρ w' ρ' := by
  subst hsize
  subst hby
  have hsmall : n + m ≤ 9223372036854775807 := by simp only [maxLen] at h63; omega
  have hlen : (xs ++ news).length = (n + m) * i.size := by rw [List.length_append, hown.1, hl, Nat.add_mul]
  have grown : ∀ (old : Nat), old < n + m →
      OwnSl (w.drew.alloc (.cells (xs.toArray ++ news.toArray ++ Builtin.zeroCells z.cells (grownCap w (n + m) old e - (n + m))) e)) (ρ.put w.heap.size tg) tg e i.size
        (.slice (some ⟨w.heap.size, 0, none⟩) (n + m) (grownCap w (n + m) old e)) (n + m) (xs ++ news) ∧
      Step (· = tg) w ρ (w.drew.alloc (.cells (xs.toArray ++ news.toArray ++ Builtin.zeroCells z.cells (grownCap w (n + m) old e - (n + m))) e)) (ρ.put w.heap.size tg) := by
    intro old ho
    have hge := grownCap_ge w (n + m) old e
    have hcm : grownCap w (n + m) old e ≤ maxLen := grownCap_le_maxLen w (n + m) old e h63
    refine ⟨⟨hlen, .inr ⟨w.heap.size, _, _, rfl, Ghost.put_same _ _ _, Blk.new' w.drew _ e, hge, hcm, ?_, ?_⟩⟩, ((Step.refl _ w ρ).drew.alloc_tag _ tg)⟩
    · simp only [Array.length_toList, Array.size_append, List.size_toArray, size_zeroCells, hzs, hown.1, hl, ← Nat.add_mul]
      apply Nat.le_of_eq
      congr 1
      omega
    · simp only [Array.toList_append, List.append_assoc]
      rw [← List.append_assoc, ← hlen]
      exact List.take_left
  rcases hown.2 with ⟨rfl, rfl⟩ | ⟨g, cap, L, rfl, hr0, hb, hnc, hcm, hcs, htake⟩
  · have hx : xs = [] := List.eq_nil_of_length_eq_zero (by simpa using hown.1)
    subst hx
    by_cases hm : m = 0
    · subst hm
      have hn : news = [] := List.eq_nil_of_length_eq_zero (by simpa using hl)
      subst hn
      refine ⟨.slice none 0 0, w, ρ, ?_, OwnSl.nil w ρ tg e i.size, Step.refl _ _ _⟩
      simp [Builtin.append_, run_underlying ht, sizeOf, typeInfo, hi, Builtin.lenOf, Builtin.firstCells, loadCells, loadCellsFrom]
    · have hr := run_append_nil (P := P) w t ty e i z ht hi hz a m c news hl hnews (by omega) (by omega) (by have hb := hbytes; simp only [Nat.zero_add] at hb; omega)
      have hgr := grown 0 (by omega)
      simp only [Nat.zero_add, List.nil_append, Array.empty_append] at hgr ⊢
      exact ⟨_, _, _, hr, hgr.1, hgr.2⟩
  · by_cases hroom : n + m ≤ cap
    · have hle : (n + m) * i.size ≤ cap * i.size := Nat.mul_le_mul_right _ hroom
      have hfit : n * i.size + news.length ≤ L.length := by rw [hl, ← Nat.add_mul]; omega
      have hr := run_append_room (P := P) w t ty e i ht hi g n cap L.toArray hb a m c news hl hnews h1 hroom (by simpa using hfit)
      refine ⟨_, _, ρ, hr, ⟨hlen, .inr ⟨g, cap, _, rfl, hr0, setRow_heap w g L.toArray _ e _ hb, hroom, hcm, ?_, ?_⟩⟩, ?_⟩
      · simp only [List.length_append, List.length_take, List.length_drop]
        omega
      · rw [htake, ← hlen]
        exact List.take_left
      · refine ⟨rfl, rfl, rfl, by simp [World.setRow], fun _ _ => rfl, fun k _ hk => setRow_other w g k _ (by rintro rfl; exact hk tg hr0 rfl), fun f k hk => f k (by simpa [World.setRow] using hk)⟩
    · have holds : ∀ j u, xs[j]? = some u → w.cell? ((⟨g, 0, none⟩ : Addr).add j) = some u := by
        intro j u hu
        have hadd : (⟨g, 0, none⟩ : Addr).add j = ⟨g, j, none⟩ := by unfold Addr.add; split <;> simp_all
        rw [hadd, hb.at]
        rw [← htake, List.getElem?_take] at hu
        split at hu
        · exact hu
        · cases hu
      have hr := run_append_grow (P := P) w t ty e i z ht hi hz ⟨g, 0, none⟩ n cap xs hown.1 holds a m c news hl hnews (by omega) (by omega) (growslice_fits (by omega) hbytes)
      have hgr := grown cap (by omega)
      exact ⟨_, _, _, hr, hgr.1, hgr.2⟩
end

/-- The law at the operation: what is appended lies in a row of its own. -/
theorem wpList_appendS {P : Program} {w : World} {ops : Array Oper} {rest : List Oper} {o : Oper} {a : Act} {Q : Exit → Act → World → Prop} (hgd : o.guard = none) (s x : Operand) (t : TypeId)
    (ho : o.op = .call { callee := .builtin .append, args := #[s, x], argTypes := #[t, t] })
    (e : TypeId) (z : Value) (size bytes : Nat) (ht : P.underlying t = some (.slice e)) (hinfo : (P.info? e).map (fun i => (i.zero, i.size, i.bytes)) = some (some z, size, bytes)) (hzs : z.cells.size = size) (hsz : 0 < size)
    (ρ : Ghost) (tg : Tag) (v : Value) (n : Nat) (xs : List Value) (hs : a.eval s = v) (hown : OwnSl w ρ tg e size v n xs)
    (ad : Addr) (m c : Nat) (news : List Value) (hx : a.eval x = .slice (some ad) m c) (hl : news.length = m * size) (hnews : ∀ j u, news[j]? = some u → w.cell? (ad.add j) = some u) (h1 : ∀ u ∈ news, u.oneCell' = true)
    (h63 : n + m ≤ maxLen) (hbytes : (n + m) * bytes ≤ 140737488355328)
    (h : ∀ v' w' ρ', OwnSl w' ρ' tg e size v' (n + m) (xs ++ news) → Step (· = tg) w ρ w' ρ' → wpList P ops Q rest (a.put o.dst v') w') : wpList P ops Q (o :: rest) a w := by
  obtain ⟨i, hi, hzz⟩ := Option.map_eq_some_iff.1 hinfo
  simp only [Prod.mk.injEq] at hzz
  obtain ⟨hz0, hz1, hz2⟩ := hzz
  obtain ⟨v', w', ρ', hr, h2, h3⟩ := run_append_ownS (P := P) w t o.type e i z size bytes ht hi hz0 hz1 hz2 hzs hsz ρ tg v n xs hown ad m c news hl hnews h1 h63 hbytes
  refine wpList_plain hgd fun K hK => ?_
  unfold Oper.wp execOp
  simp only [ho, resolve, invoke, builtin, Sem.run_bind, Sem.run_pure, Result.andThen_ok, List.map_toArray, List.map_cons, List.map_nil, hs, hx, hr]
  exact hK _ _ (h v' w' ρ' h2 h3)

/-- What is appended stands in a box that has just been made. -/
theorem wpList_append_box {P : Program} {W : World} {ops : Array Oper} {rest : List Oper} {o : Oper} {a : Act} {Q : Exit → Act → World → Prop} (hgd : o.guard = none) (s x : Operand) (t : TypeId)
    (ho : o.op = .call { callee := .builtin .append, args := #[s, x], argTypes := #[t, t] })
    (e : TypeId) (z : Value) (size bytes : Nat) (ht : P.underlying t = some (.slice e)) (hinfo : (P.info? e).map (fun i => (i.zero, i.size, i.bytes)) = some (some z, size, bytes)) (hzs : z.cells.size = size) (hsz : 0 < size)
    (ρ : Ghost) (tg : Tag) (v : Value) (n : Nat) (xs news : List Value) (hs : a.eval s = v) (hown : OwnSl W ρ tg e size v n xs) (m : Nat)
    (hx : a.eval x = .slice (some ⟨W.heap.size, 0, none⟩) m m) (hl : news.length = m * size) (h1 : ∀ u ∈ news, u.oneCell' = true)
    (h63 : n + m ≤ maxLen) (hbytes : (n + m) * bytes ≤ 140737488355328)
    (h : ∀ v' w' ρ', OwnSl w' ρ' tg e size v' (n + m) (xs ++ news) → Step (· = tg) W ρ w' ρ' → wpList P ops Q rest (a.put o.dst v') w') : wpList P ops Q (o :: rest) a (W.alloc (.cells news.toArray e)) :=
  wpList_appendS hgd s x t ho e z size bytes ht hinfo hzs hsz ρ tg v n xs hs (hown.alloc _) ⟨W.heap.size, 0, none⟩ m m news hx hl
    (fun j u hu => by
      have hadd : (⟨W.heap.size, 0, none⟩ : Addr).add j = ⟨W.heap.size, j, none⟩ := by unfold Addr.add; split <;> simp_all
      rw [hadd, (Blk.new W news e).at, hu]) h1 h63 hbytes
    (fun v' w' ρ' ho hs => h v' w' ρ' ho (((Step.refl _ W ρ).alloc _).trans hs))

/-- The same, the box's number spelled as the walk spells it. -/
theorem wpList_append_boxW {P : Program} {W : World} {ops : Array Oper} {rest : List Oper} {o : Oper} {a : Act} {Q : Exit → Act → World → Prop} (hgd : o.guard = none) (s x : Operand) (t : TypeId)
    (ho : o.op = .call { callee := .builtin .append, args := #[s, x], argTypes := #[t, t] })
    (e : TypeId) (z : Value) (size bytes : Nat) (ht : P.underlying t = some (.slice e)) (hinfo : (P.info? e).map (fun i => (i.zero, i.size, i.bytes)) = some (some z, size, bytes)) (hzs : z.cells.size = size) (hsz : 0 < size)
    (ρ : Ghost) (tg : Tag) (v : Value) (n : Nat) (xs news : List Value) (hs : a.eval s = v) (hown : OwnSl W ρ tg e size v n xs) (m B : Nat)
    (hx : a.eval x = .slice (some ⟨B, 0, none⟩) m m) (hB : B = W.heap.size) (hl : news.length = m * size) (h1 : ∀ u ∈ news, u.oneCell' = true)
    (h63 : n + m ≤ maxLen) (hbytes : (n + m) * bytes ≤ 140737488355328)
    (h : ∀ v' w' ρ', OwnSl w' ρ' tg e size v' (n + m) (xs ++ news) → Step (· = tg) W ρ w' ρ' → wpList P ops Q rest (a.put o.dst v') w') : wpList P ops Q (o :: rest) a (W.alloc (.cells news.toArray e)) := by
  subst hB
  exact wpList_append_box hgd s x t ho e z size bytes ht hinfo hzs hsz ρ tg v n xs news hs hown m hx hl h1 h63 hbytes h

end Go.Proofs.Ytgejmgomliadmaa
