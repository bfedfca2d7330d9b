/- The reference store in memory: Begin, isOpen, Close. -/
import Derived.Test.YtgejmgomliadmaaStL
set_option linter.unusedVariables false
namespace Go.Proofs.Ytgejmgomliadmaa
open Go Go.RowKit

structure RSt where
  op : List Bool
  cur : List Int
  fil : List Int
  own : List Int
  beg : List Int
  siz : List Int
  reg : List Int
  dat : List Int
def RSt.empty : RSt := ⟨[], [], [], [], [], [], [], []⟩
def bools (l : List Bool) : List Value := l.map Value.bool
theorem bools_length (l : List Bool) : (bools l).length = l.length := by simp [bools]
theorem bools_get {l : List Bool} {k : Nat} (h : k < l.length) : (bools l)[k]? = some (.bool (l.getD k false)) := by
  simp [bools, List.getElem?_eq_getElem h, List.getD_eq_getElem?_getD]

structure RRepAt (w : World) (ρ : Ghost) (a : Nat) (t : RSt) (v0 v1 v2 v3 v4 v5 v6 v7 : Value) : Prop where
  blk : Blk w a 31 [v0, v1, v2, v3, v4, v5, v6, v7]
  tag : ρ a = some (21, 0)
  o0 : OwnSl w ρ (22, 0) 4 1 v0 t.op.length (bools t.op)
  o1 : OwnSl w ρ (22, 1) 3 1 v1 t.cur.length (ints t.cur)
  o2 : OwnSl w ρ (22, 2) 3 1 v2 t.fil.length (ints t.fil)
  o3 : OwnSl w ρ (22, 3) 3 1 v3 t.own.length (ints t.own)
  o4 : OwnSl w ρ (22, 4) 3 1 v4 t.beg.length (ints t.beg)
  o5 : OwnSl w ρ (22, 5) 3 1 v5 t.siz.length (ints t.siz)
  o6 : OwnSl w ρ (22, 6) 3 1 v6 t.reg.length (ints t.reg)
  o7 : OwnSl w ρ (22, 7) 2 1 v7 t.dat.length (ints t.dat)
def RRep (w : World) (ρ : Ghost) (a : Nat) (t : RSt) : Prop := ∃ v0 v1 v2 v3 v4 v5 v6 v7, RRepAt w ρ a t v0 v1 v2 v3 v4 v5 v6 v7
/-- The tags of a reference store. -/
def RTag (t : Tag) : Prop := t.1 = 21 ∨ t.1 = 22

theorem RRepAt.step {T : Tag → Prop} {w w1 : World} {ρ ρ1 : Ghost} {a : Nat} {t : RSt} {v0 v1 v2 v3 v4 v5 v6 v7 : Value} (h : RRepAt w ρ a t v0 v1 v2 v3 v4 v5 v6 v7) (hs : Step T w ρ w1 ρ1) (hT : ∀ t, RTag t → ¬ T t) : RRepAt w1 ρ1 a t v0 v1 v2 v3 v4 v5 v6 v7 where
  blk := hs.blk' h.blk h.tag (hT _ (by simp [RTag]))
  tag := hs.tag h.blk.lt h.tag
  o0 := h.o0.step hs (hT _ (by simp [RTag]))
  o1 := h.o1.step hs (hT _ (by simp [RTag]))
  o2 := h.o2.step hs (hT _ (by simp [RTag]))
  o3 := h.o3.step hs (hT _ (by simp [RTag]))
  o4 := h.o4.step hs (hT _ (by simp [RTag]))
  o5 := h.o5.step hs (hT _ (by simp [RTag]))
  o6 := h.o6.step hs (hT _ (by simp [RTag]))
  o7 := h.o7.step hs (hT _ (by simp [RTag]))
theorem RRep.step {T : Tag → Prop} {w w1 : World} {ρ ρ1 : Ghost} {a : Nat} {t : RSt} (h : RRep w ρ a t) (hs : Step T w ρ w1 ρ1) (hT : ∀ t, RTag t → ¬ T t) : RRep w1 ρ1 a t := by
  obtain ⟨v0, v1, v2, v3, v4, v5, v6, v7, h⟩ := h
  exact ⟨v0, v1, v2, v3, v4, v5, v6, v7, h.step hs hT⟩

/-! ### One field of the reference's store is written anew -/
theorem RRepAt.app0 {w w1 : World} {ρ ρ1 : Ghost} {a : Nat} {t : RSt} {v0 v1 v2 v3 v4 v5 v6 v7 : Value} (h : RRepAt w ρ a t v0 v1 v2 v3 v4 v5 v6 v7) (hs : Step (· = (22, 0)) w ρ w1 ρ1) {v : Value} {l : List Bool} {n : Nat} {xs : List Value} (hx : OwnSl w1 ρ1 (22, 0) 4 1 v n xs) (hn : n = l.length) (hxs : xs = bools l) :
    RRepAt (w1.setCell ⟨a, 0, none⟩ v) ρ1 a { t with op := l } v v1 v2 v3 v4 v5 v6 v7 := by
  subst hn hxs
  have ht := hs.tag h.blk.lt h.tag
  have hb := hs.blk' h.blk h.tag (by simp)
  exact { blk := hb.setCell 0 v, tag := ht, o0 := hx.set_ne _ (by rw [ht]; simp), o1 := (h.o1.step hs (by simp)).set_ne _ (by rw [ht]; simp), o2 := (h.o2.step hs (by simp)).set_ne _ (by rw [ht]; simp), o3 := (h.o3.step hs (by simp)).set_ne _ (by rw [ht]; simp), o4 := (h.o4.step hs (by simp)).set_ne _ (by rw [ht]; simp), o5 := (h.o5.step hs (by simp)).set_ne _ (by rw [ht]; simp), o6 := (h.o6.step hs (by simp)).set_ne _ (by rw [ht]; simp), o7 := (h.o7.step hs (by simp)).set_ne _ (by rw [ht]; simp) }
/-- .. in place, its header as it was. -/
theorem RRepAt.upd0 {w w1 : World} {ρ : Ghost} {a : Nat} {t : RSt} {v0 v1 v2 v3 v4 v5 v6 v7 : Value} (h : RRepAt w ρ a t v0 v1 v2 v3 v4 v5 v6 v7) (hs : Step (· = (22, 0)) w ρ w1 ρ) {l : List Bool} {n : Nat} {xs : List Value} (hx : OwnSl w1 ρ (22, 0) 4 1 v0 n xs) (hn : n = l.length) (hxs : xs = bools l) :
    RRepAt w1 ρ a { t with op := l } v0 v1 v2 v3 v4 v5 v6 v7 := by
  subst hn hxs
  exact { blk := hs.blk' h.blk h.tag (by simp), tag := h.tag, o0 := hx, o1 := h.o1.step hs (by simp), o2 := h.o2.step hs (by simp), o3 := h.o3.step hs (by simp), o4 := h.o4.step hs (by simp), o5 := h.o5.step hs (by simp), o6 := h.o6.step hs (by simp), o7 := h.o7.step hs (by simp) }
theorem RRepAt.app1 {w w1 : World} {ρ ρ1 : Ghost} {a : Nat} {t : RSt} {v0 v1 v2 v3 v4 v5 v6 v7 : Value} (h : RRepAt w ρ a t v0 v1 v2 v3 v4 v5 v6 v7) (hs : Step (· = (22, 1)) w ρ w1 ρ1) {v : Value} {l : List Int} {n : Nat} {xs : List Value} (hx : OwnSl w1 ρ1 (22, 1) 3 1 v n xs) (hn : n = l.length) (hxs : xs = ints l) :
    RRepAt (w1.setCell ⟨a, 1, none⟩ v) ρ1 a { t with cur := l } v0 v v2 v3 v4 v5 v6 v7 := by
  subst hn hxs
  have ht := hs.tag h.blk.lt h.tag
  have hb := hs.blk' h.blk h.tag (by simp)
  exact { blk := hb.setCell 1 v, tag := ht, o0 := (h.o0.step hs (by simp)).set_ne _ (by rw [ht]; simp), o1 := hx.set_ne _ (by rw [ht]; simp), o2 := (h.o2.step hs (by simp)).set_ne _ (by rw [ht]; simp), o3 := (h.o3.step hs (by simp)).set_ne _ (by rw [ht]; simp), o4 := (h.o4.step hs (by simp)).set_ne _ (by rw [ht]; simp), o5 := (h.o5.step hs (by simp)).set_ne _ (by rw [ht]; simp), o6 := (h.o6.step hs (by simp)).set_ne _ (by rw [ht]; simp), o7 := (h.o7.step hs (by simp)).set_ne _ (by rw [ht]; simp) }
/-- .. in place, its header as it was. -/
theorem RRepAt.upd1 {w w1 : World} {ρ : Ghost} {a : Nat} {t : RSt} {v0 v1 v2 v3 v4 v5 v6 v7 : Value} (h : RRepAt w ρ a t v0 v1 v2 v3 v4 v5 v6 v7) (hs : Step (· = (22, 1)) w ρ w1 ρ) {l : List Int} {n : Nat} {xs : List Value} (hx : OwnSl w1 ρ (22, 1) 3 1 v1 n xs) (hn : n = l.length) (hxs : xs = ints l) :
    RRepAt w1 ρ a { t with cur := l } v0 v1 v2 v3 v4 v5 v6 v7 := by
  subst hn hxs
  exact { blk := hs.blk' h.blk h.tag (by simp), tag := h.tag, o0 := h.o0.step hs (by simp), o1 := hx, o2 := h.o2.step hs (by simp), o3 := h.o3.step hs (by simp), o4 := h.o4.step hs (by simp), o5 := h.o5.step hs (by simp), o6 := h.o6.step hs (by simp), o7 := h.o7.step hs (by simp) }
theorem RRepAt.app2 {w w1 : World} {ρ ρ1 : Ghost} {a : Nat} {t : RSt} {v0 v1 v2 v3 v4 v5 v6 v7 : Value} (h : RRepAt w ρ a t v0 v1 v2 v3 v4 v5 v6 v7) (hs : Step (· = (22, 2)) w ρ w1 ρ1) {v : Value} {l : List Int} {n : Nat} {xs : List Value} (hx : OwnSl w1 ρ1 (22, 2) 3 1 v n xs) (hn : n = l.length) (hxs : xs = ints l) :
    RRepAt (w1.setCell ⟨a, 2, none⟩ v) ρ1 a { t with fil := l } v0 v1 v v3 v4 v5 v6 v7 := by
  subst hn hxs
  have ht := hs.tag h.blk.lt h.tag
  have hb := hs.blk' h.blk h.tag (by simp)
  exact { blk := hb.setCell 2 v, tag := ht, o0 := (h.o0.step hs (by simp)).set_ne _ (by rw [ht]; simp), o1 := (h.o1.step hs (by simp)).set_ne _ (by rw [ht]; simp), o2 := hx.set_ne _ (by rw [ht]; simp), o3 := (h.o3.step hs (by simp)).set_ne _ (by rw [ht]; simp), o4 := (h.o4.step hs (by simp)).set_ne _ (by rw [ht]; simp), o5 := (h.o5.step hs (by simp)).set_ne _ (by rw [ht]; simp), o6 := (h.o6.step hs (by simp)).set_ne _ (by rw [ht]; simp), o7 := (h.o7.step hs (by simp)).set_ne _ (by rw [ht]; simp) }
/-- .. in place, its header as it was. -/
theorem RRepAt.upd2 {w w1 : World} {ρ : Ghost} {a : Nat} {t : RSt} {v0 v1 v2 v3 v4 v5 v6 v7 : Value} (h : RRepAt w ρ a t v0 v1 v2 v3 v4 v5 v6 v7) (hs : Step (· = (22, 2)) w ρ w1 ρ) {l : List Int} {n : Nat} {xs : List Value} (hx : OwnSl w1 ρ (22, 2) 3 1 v2 n xs) (hn : n = l.length) (hxs : xs = ints l) :
    RRepAt w1 ρ a { t with fil := l } v0 v1 v2 v3 v4 v5 v6 v7 := by
  subst hn hxs
  exact { blk := hs.blk' h.blk h.tag (by simp), tag := h.tag, o0 := h.o0.step hs (by simp), o1 := h.o1.step hs (by simp), o2 := hx, o3 := h.o3.step hs (by simp), o4 := h.o4.step hs (by simp), o5 := h.o5.step hs (by simp), o6 := h.o6.step hs (by simp), o7 := h.o7.step hs (by simp) }
theorem RRepAt.app3 {w w1 : World} {ρ ρ1 : Ghost} {a : Nat} {t : RSt} {v0 v1 v2 v3 v4 v5 v6 v7 : Value} (h : RRepAt w ρ a t v0 v1 v2 v3 v4 v5 v6 v7) (hs : Step (· = (22, 3)) w ρ w1 ρ1) {v : Value} {l : List Int} {n : Nat} {xs : List Value} (hx : OwnSl w1 ρ1 (22, 3) 3 1 v n xs) (hn : n = l.length) (hxs : xs = ints l) :
    RRepAt (w1.setCell ⟨a, 3, none⟩ v) ρ1 a { t with own := l } v0 v1 v2 v v4 v5 v6 v7 := by
  subst hn hxs
  have ht := hs.tag h.blk.lt h.tag
  have hb := hs.blk' h.blk h.tag (by simp)
  exact { blk := hb.setCell 3 v, tag := ht, o0 := (h.o0.step hs (by simp)).set_ne _ (by rw [ht]; simp), o1 := (h.o1.step hs (by simp)).set_ne _ (by rw [ht]; simp), o2 := (h.o2.step hs (by simp)).set_ne _ (by rw [ht]; simp), o3 := hx.set_ne _ (by rw [ht]; simp), o4 := (h.o4.step hs (by simp)).set_ne _ (by rw [ht]; simp), o5 := (h.o5.step hs (by simp)).set_ne _ (by rw [ht]; simp), o6 := (h.o6.step hs (by simp)).set_ne _ (by rw [ht]; simp), o7 := (h.o7.step hs (by simp)).set_ne _ (by rw [ht]; simp) }
/-- .. in place, its header as it was. -/
theorem RRepAt.upd3 {w w1 : World} {ρ : Ghost} {a : Nat} {t : RSt} {v0 v1 v2 v3 v4 v5 v6 v7 : Value} (h : RRepAt w ρ a t v0 v1 v2 v3 v4 v5 v6 v7) (hs : Step (· = (22, 3)) w ρ w1 ρ) {l : List Int} {n : Nat} {xs : List Value} (hx : OwnSl w1 ρ (22, 3) 3 1 v3 n xs) (hn : n = l.length) (hxs : xs = ints l) :
    RRepAt w1 ρ a { t with own := l } v0 v1 v2 v3 v4 v5 v6 v7 := by
  subst hn hxs
  exact { blk := hs.blk' h.blk h.tag (by simp), tag := h.tag, o0 := h.o0.step hs (by simp), o1 := h.o1.step hs (by simp), o2 := h.o2.step hs (by simp), o3 := hx, o4 := h.o4.step hs (by simp), o5 := h.o5.step hs (by simp), o6 := h.o6.step hs (by simp), o7 := h.o7.step hs (by simp) }
theorem RRepAt.app4 {w w1 : World} {ρ ρ1 : Ghost} {a : Nat} {t : RSt} {v0 v1 v2 v3 v4 v5 v6 v7 : Value} (h : RRepAt w ρ a t v0 v1 v2 v3 v4 v5 v6 v7) (hs : Step (· = (22, 4)) w ρ w1 ρ1) {v : Value} {l : List Int} {n : Nat} {xs : List Value} (hx : OwnSl w1 ρ1 (22, 4) 3 1 v n xs) (hn : n = l.length) (hxs : xs = ints l) :
    RRepAt (w1.setCell ⟨a, 4, none⟩ v) ρ1 a { t with beg := l } v0 v1 v2 v3 v v5 v6 v7 := by
  subst hn hxs
  have ht := hs.tag h.blk.lt h.tag
  have hb := hs.blk' h.blk h.tag (by simp)
  exact { blk := hb.setCell 4 v, tag := ht, o0 := (h.o0.step hs (by simp)).set_ne _ (by rw [ht]; simp), o1 := (h.o1.step hs (by simp)).set_ne _ (by rw [ht]; simp), o2 := (h.o2.step hs (by simp)).set_ne _ (by rw [ht]; simp), o3 := (h.o3.step hs (by simp)).set_ne _ (by rw [ht]; simp), o4 := hx.set_ne _ (by rw [ht]; simp), o5 := (h.o5.step hs (by simp)).set_ne _ (by rw [ht]; simp), o6 := (h.o6.step hs (by simp)).set_ne _ (by rw [ht]; simp), o7 := (h.o7.step hs (by simp)).set_ne _ (by rw [ht]; simp) }
/-- .. in place, its header as it was. -/
theorem RRepAt.upd4 {w w1 : World} {ρ : Ghost} {a : Nat} {t : RSt} {v0 v1 v2 v3 v4 v5 v6 v7 : Value} (h : RRepAt w ρ a t v0 v1 v2 v3 v4 v5 v6 v7) (hs : Step (· = (22, 4)) w ρ w1 ρ) {l : List Int} {n : Nat} {xs : List Value} (hx : OwnSl w1 ρ (22, 4) 3 1 v4 n xs) (hn : n = l.length) (hxs : xs = ints l) :
    RRepAt w1 ρ a { t with beg := l } v0 v1 v2 v3 v4 v5 v6 v7 := by
  subst hn hxs
  exact { blk := hs.blk' h.blk h.tag (by simp), tag := h.tag, o0 := h.o0.step hs (by simp), o1 := h.o1.step hs (by simp), o2 := h.o2.step hs (by simp), o3 := h.o3.step hs (by simp), o4 := hx, o5 := h.o5.step hs (by simp), o6 := h.o6.step hs (by simp), o7 := h.o7.step hs (by simp) }
theorem RRepAt.app5 {w w1 : World} {ρ ρ1 : Ghost} {a : Nat} {t : RSt} {v0 v1 v2 v3 v4 v5 v6 v7 : Value} (h : RRepAt w ρ a t v0 v1 v2 v3 v4 v5 v6 v7) (hs : Step (· = (22, 5)) w ρ w1 ρ1) {v : Value} {l : List Int} {n : Nat} {xs : List Value} (hx : OwnSl w1 ρ1 (22, 5) 3 1 v n xs) (hn : n = l.length) (hxs : xs = ints l) :
    RRepAt (w1.setCell ⟨a, 5, none⟩ v) ρ1 a { t with siz := l } v0 v1 v2 v3 v4 v v6 v7 := by
  subst hn hxs
  have ht := hs.tag h.blk.lt h.tag
  have hb := hs.blk' h.blk h.tag (by simp)
  exact { blk := hb.setCell 5 v, tag := ht, o0 := (h.o0.step hs (by simp)).set_ne _ (by rw [ht]; simp), o1 := (h.o1.step hs (by simp)).set_ne _ (by rw [ht]; simp), o2 := (h.o2.step hs (by simp)).set_ne _ (by rw [ht]; simp), o3 := (h.o3.step hs (by simp)).set_ne _ (by rw [ht]; simp), o4 := (h.o4.step hs (by simp)).set_ne _ (by rw [ht]; simp), o5 := hx.set_ne _ (by rw [ht]; simp), o6 := (h.o6.step hs (by simp)).set_ne _ (by rw [ht]; simp), o7 := (h.o7.step hs (by simp)).set_ne _ (by rw [ht]; simp) }
/-- .. in place, its header as it was. -/
theorem RRepAt.upd5 {w w1 : World} {ρ : Ghost} {a : Nat} {t : RSt} {v0 v1 v2 v3 v4 v5 v6 v7 : Value} (h : RRepAt w ρ a t v0 v1 v2 v3 v4 v5 v6 v7) (hs : Step (· = (22, 5)) w ρ w1 ρ) {l : List Int} {n : Nat} {xs : List Value} (hx : OwnSl w1 ρ (22, 5) 3 1 v5 n xs) (hn : n = l.length) (hxs : xs = ints l) :
    RRepAt w1 ρ a { t with siz := l } v0 v1 v2 v3 v4 v5 v6 v7 := by
  subst hn hxs
  exact { blk := hs.blk' h.blk h.tag (by simp), tag := h.tag, o0 := h.o0.step hs (by simp), o1 := h.o1.step hs (by simp), o2 := h.o2.step hs (by simp), o3 := h.o3.step hs (by simp), o4 := h.o4.step hs (by simp), o5 := hx, o6 := h.o6.step hs (by simp), o7 := h.o7.step hs (by simp) }
theorem RRepAt.app6 {w w1 : World} {ρ ρ1 : Ghost} {a : Nat} {t : RSt} {v0 v1 v2 v3 v4 v5 v6 v7 : Value} (h : RRepAt w ρ a t v0 v1 v2 v3 v4 v5 v6 v7) (hs : Step (· = (22, 6)) w ρ w1 ρ1) {v : Value} {l : List Int} {n : Nat} {xs : List Value} (hx : OwnSl w1 ρ1 (22, 6) 3 1 v n xs) (hn : n = l.length) (hxs : xs = ints l) :
    RRepAt (w1.setCell ⟨a, 6, none⟩ v) ρ1 a { t with reg := l } v0 v1 v2 v3 v4 v5 v v7 := by
  subst hn hxs
  have ht := hs.tag h.blk.lt h.tag
  have hb := hs.blk' h.blk h.tag (by simp)
  exact { blk := hb.setCell 6 v, tag := ht, o0 := (h.o0.step hs (by simp)).set_ne _ (by rw [ht]; simp), o1 := (h.o1.step hs (by simp)).set_ne _ (by rw [ht]; simp), o2 := (h.o2.step hs (by simp)).set_ne _ (by rw [ht]; simp), o3 := (h.o3.step hs (by simp)).set_ne _ (by rw [ht]; simp), o4 := (h.o4.step hs (by simp)).set_ne _ (by rw [ht]; simp), o5 := (h.o5.step hs (by simp)).set_ne _ (by rw [ht]; simp), o6 := hx.set_ne _ (by rw [ht]; simp), o7 := (h.o7.step hs (by simp)).set_ne _ (by rw [ht]; simp) }
/-- .. in place, its header as it was. -/
theorem RRepAt.upd6 {w w1 : World} {ρ : Ghost} {a : Nat} {t : RSt} {v0 v1 v2 v3 v4 v5 v6 v7 : Value} (h : RRepAt w ρ a t v0 v1 v2 v3 v4 v5 v6 v7) (hs : Step (· = (22, 6)) w ρ w1 ρ) {l : List Int} {n : Nat} {xs : List Value} (hx : OwnSl w1 ρ (22, 6) 3 1 v6 n xs) (hn : n = l.length) (hxs : xs = ints l) :
    RRepAt w1 ρ a { t with reg := l } v0 v1 v2 v3 v4 v5 v6 v7 := by
  subst hn hxs
  exact { blk := hs.blk' h.blk h.tag (by simp), tag := h.tag, o0 := h.o0.step hs (by simp), o1 := h.o1.step hs (by simp), o2 := h.o2.step hs (by simp), o3 := h.o3.step hs (by simp), o4 := h.o4.step hs (by simp), o5 := h.o5.step hs (by simp), o6 := hx, o7 := h.o7.step hs (by simp) }
theorem RRepAt.app7 {w w1 : World} {ρ ρ1 : Ghost} {a : Nat} {t : RSt} {v0 v1 v2 v3 v4 v5 v6 v7 : Value} (h : RRepAt w ρ a t v0 v1 v2 v3 v4 v5 v6 v7) (hs : Step (· = (22, 7)) w ρ w1 ρ1) {v : Value} {l : List Int} {n : Nat} {xs : List Value} (hx : OwnSl w1 ρ1 (22, 7) 2 1 v n xs) (hn : n = l.length) (hxs : xs = ints l) :
    RRepAt (w1.setCell ⟨a, 7, none⟩ v) ρ1 a { t with dat := l } v0 v1 v2 v3 v4 v5 v6 v := by
  subst hn hxs
  have ht := hs.tag h.blk.lt h.tag
  have hb := hs.blk' h.blk h.tag (by simp)
  exact { blk := hb.setCell 7 v, tag := ht, o0 := (h.o0.step hs (by simp)).set_ne _ (by rw [ht]; simp), o1 := (h.o1.step hs (by simp)).set_ne _ (by rw [ht]; simp), o2 := (h.o2.step hs (by simp)).set_ne _ (by rw [ht]; simp), o3 := (h.o3.step hs (by simp)).set_ne _ (by rw [ht]; simp), o4 := (h.o4.step hs (by simp)).set_ne _ (by rw [ht]; simp), o5 := (h.o5.step hs (by simp)).set_ne _ (by rw [ht]; simp), o6 := (h.o6.step hs (by simp)).set_ne _ (by rw [ht]; simp), o7 := hx.set_ne _ (by rw [ht]; simp) }
/-- .. in place, its header as it was. -/
theorem RRepAt.upd7 {w w1 : World} {ρ : Ghost} {a : Nat} {t : RSt} {v0 v1 v2 v3 v4 v5 v6 v7 : Value} (h : RRepAt w ρ a t v0 v1 v2 v3 v4 v5 v6 v7) (hs : Step (· = (22, 7)) w ρ w1 ρ) {l : List Int} {n : Nat} {xs : List Value} (hx : OwnSl w1 ρ (22, 7) 2 1 v7 n xs) (hn : n = l.length) (hxs : xs = ints l) :
    RRepAt w1 ρ a { t with dat := l } v0 v1 v2 v3 v4 v5 v6 v7 := by
  subst hn hxs
  exact { blk := hs.blk' h.blk h.tag (by simp), tag := h.tag, o0 := h.o0.step hs (by simp), o1 := h.o1.step hs (by simp), o2 := h.o2.step hs (by simp), o3 := h.o3.step hs (by simp), o4 := h.o4.step hs (by simp), o5 := h.o5.step hs (by simp), o6 := h.o6.step hs (by simp), o7 := hx }

theorem RNew_any (w : World) : Calls Try.prog 10 #[] w fun e w' => e = .returned (.agg #[.slice none 0 0, .slice none 0 0, .slice none 0 0, .slice none 0 0, .slice none 0 0, .slice none 0 0, .slice none 0 0, .slice none 0 0]) ∧ Below w.heap.size w w' := by
  go_enter Try.func10, Try.ntmps10
  go_wp2
  exact bodyPost_ret (v := .agg #[.slice none 0 0, .slice none 0 0, .slice none 0 0, .slice none 0 0, .slice none 0 0, .slice none 0 0, .slice none 0 0, .slice none 0 0]) (by simp [results, Try.results10, go_sem]) rfl ⟨rfl, (Below.refl _ _).alloc (Nat.le_refl _) _⟩

/-! ### isOpen -/
def rOpen (t : RSt) (n : Int) : Bool := decide (0 ≤ n) && decide (n < t.op.length) && t.op.getD n.toNat false
theorem isOpen_any (w : World) (ρ : Ghost) (a : Nat) (t : RSt) (H : RRep w ρ a t) (n : Int) :
    Calls Try.prog 33 #[.pointer (some ⟨a, 0, none⟩), .int .i64 n] w fun e w' => e = .returned (.bool (rOpen t n)) ∧ w = w' := by
  obtain ⟨v0, v1, v2, v3, v4, v5, v6, v7, H⟩ := H
  have h0 := H.blk.cell (i := 0) rfl
  obtain ⟨A, c, rfl, hl, hm⟩ := H.o0.form
  unfold maxLen at hm
  by_cases hn : 0 ≤ n
  · by_cases hn' : n < t.op.length
    · obtain ⟨i, rfl⟩ := Int.eq_ofNat_of_zero_le hn
      have hlt : i < t.op.length := by omega
      obtain ⟨g, c', hv, _, _, _, hc, _, _⟩ := H.o0.some (by omega)
      cases hv
      have hc0 := hc i (by omega)
      rw [bools_get hlt] at hc0
      have HE : Hd (rOpen t i = t.op.getD i false) := ⟨by simp [rOpen, hlt]⟩
      generalize t.op.getD i false = b at *
      generalize t.op.length = m at *
      clear H hc
      go_enter Try.func33, Try.ntmps33
      go_wp2
      go_ret
      refine ⟨?_, rfl⟩
      rw [HE.out]
      first | rfl | simp
    · have HE : Hd (rOpen t n = false) := ⟨by simp [rOpen, hn']⟩
      have hge : (t.op.length : Int) ≤ n := by omega
      generalize t.op.length = m at *
      clear H
      go_enter Try.func33, Try.ntmps33
      go_wp2
      go_ret
      refine ⟨?_, rfl⟩
      rw [HE.out]
      first | rfl | simp
  · have HE : Hd (rOpen t n = false) := ⟨by simp [rOpen, hn]⟩
    have hlt : n < 0 := by omega
    generalize t.op.length = m at *
    clear H
    go_enter Try.func33, Try.ntmps33
    go_wp2
    go_ret
    refine ⟨?_, rfl⟩
    rw [HE.out]
    first | rfl | simp

/-! ### Begin -/
theorem info4 : (Try.prog.info? 4).map (fun i => (i.zero, i.size, i.bytes)) = some (some (.bool false), 1, 1) := by kernel_rfl
def rBegin (t : RSt) : RSt := { t with op := t.op ++ [true], cur := t.cur ++ [-1], fil := t.fil ++ [0] }
def RPost (ρ : Ghost) (a : Nat) (t : RSt) (v : Value) (w : World) (e : Ending) (w' : World) : Prop := ∃ ρ', e = .returned v ∧ RRep w' ρ' a t ∧ Step RTag w ρ w' ρ'

set_option maxRecDepth 100000 in
theorem Begin_any (w : World) (ρ : Ghost) (a : Nat) (t : RSt) (H : RRep w ρ a t) (hb : t.op.length ≤ 1000000) (hc : t.cur.length = t.op.length) (hf : t.fil.length = t.op.length) :
    Calls Try.prog 12 #[.pointer (some ⟨a, 0, none⟩)] w (RPost ρ a (rBegin t) (.int .i64 t.op.length) w) := by
  obtain ⟨v0, v1, v2, v3, v4, v5, v6, v7, H⟩ := H
  have hb0 := H.blk
  obtain ⟨A0, c0, rfl, _, _⟩ := H.o0.form
  obtain ⟨A1, c1, rfl, _, _⟩ := H.o1.form
  obtain ⟨A2, c2, rfl, _, _⟩ := H.o2.form
  have x0 := hb0.cell (i := 0) rfl
  have x0f := hb0.free 0
  have hO0 := H.o0
  have HH := Hd.mk H
  generalize hn : t.op.length = n at *
  have HN := Hd.mk hn
  have HC := Hd.mk hc
  have HFL := Hd.mk hf
  rw [hc] at hb0
  rw [hf] at hb0
  clear hn hc hf H
  go_enter Try.func12, Try.ntmps12
  go_wp2_with (at_builtin; refine wpList_append_box rfl _ _ _ rfl 4 _ 1 1 Try.underlying27 info4 rfl (by decide) ρ (22, 0) (.slice A0 n c0) n _ [.bool true] rfl hO0 1 rfl rfl (by simp [Value.oneCell']) (by unfold maxLen; omega) (by omega) ?z1)
  case z1 =>
  intro u1 w1 ρ1 hO1 hS1
  obtain ⟨g1, d1, rfl, _⟩ := hO1.some (by omega)
  have H1 := HH.out.app0 hS1 hO1 (l := t.op ++ [true]) (by simp [HN.out]) (by simp [bools])
  have hS1' : Step RTag w ρ (w1.setCell ⟨a, 0, none⟩ (.slice (some ⟨g1, 0, none⟩) (n + 1) d1)) ρ1 := (hS1.mono (by rintro t rfl; simp [RTag])).setCell (hS1.tag hb0.lt HH.out.tag) (by simp [RTag]) _
  have hb1 := hS1.blk' hb0 HH.out.tag (by simp)
  have y0 := hb1.cell (i := 0) rfl
  have y0f := hb1.free 0
  have y1 := hb1.cell (i := 1) rfl
  have y1f := hb1.free 1
  have ho1 := H1.o1
  have hlc : t.cur.length = n := HC.out
  have hlf : t.fil.length = n := HFL.out
  simp only [hlc] at ho1
  clear x0 x0f hO0 hO1 hS1 hb0 hlc hlf
  go_wp2_with (at_builtin; refine wpList_append_boxW rfl _ _ _ rfl 3 _ 1 8 Try.underlying28 info3 rfl (by decide) ρ1 (22, 1) (.slice A1 n c1) n _ [.int .i64 (-1)] rfl ho1 1 _ rfl (by simp) rfl (by simp [Value.oneCell']) (by unfold maxLen; omega) (by omega) ?z2)
  case z2 =>
  intro u2 w2 ρ2 hO2 hS2
  obtain ⟨g2, d2, rfl, _⟩ := hO2.some (by omega)
  have H2 := H1.app1 hS2 hO2 (l := t.cur ++ [-1]) (by simp [HC.out]) (by simp [ints])
  have ht1 := H1.tag
  have hS2' : Step RTag w ρ (w2.setCell ⟨a, 1, none⟩ (.slice (some ⟨g2, 0, none⟩) (n + 1) d2)) ρ2 := (hS1'.trans (hS2.mono (by rintro t rfl; simp [RTag]))).setCell (hS2.tag H1.blk.lt ht1) (by simp [RTag]) _
  have hb2 := hS2.blk' H1.blk ht1 (by simp)
  have y3 := hb2.cell (i := 1) rfl
  have y3f := hb2.free 1
  have y4 := hb2.cell (i := 2) rfl
  have y4f := hb2.free 2
  have ho2 := H2.o2
  have hlc : t.cur.length = n := HC.out
  have hlf : t.fil.length = n := HFL.out
  simp only [hlc, hlf] at ho2 y3 y4
  clear y0 y0f y1 y1f hO2 hS2 hb1 hb2 hlc hlf ho1 H1 ht1 hS1'
  go_wp2_with (at_builtin; refine wpList_append_boxW rfl _ _ _ rfl 3 _ 1 8 Try.underlying28 info3 rfl (by decide) ρ2 (22, 2) (.slice A2 n c2) n _ [.int .i64 0] rfl ho2 1 _ rfl (by simp) rfl (by simp [Value.oneCell']) (by unfold maxLen; omega) (by omega) ?z3)
  case z3 =>
  intro u3 w3 ρ3 hO3 hS3
  obtain ⟨g3, d3, rfl, _⟩ := hO3.some (by omega)
  have H3 := H2.app2 hS3 hO3 (l := t.fil ++ [0]) (by simp [HFL.out]) (by simp [ints])
  have ht2 := H2.tag
  have hS3' : Step RTag w ρ (w3.setCell ⟨a, 2, none⟩ (.slice (some ⟨g3, 0, none⟩) (n + 1) d3)) ρ3 := (hS2'.trans (hS3.mono (by rintro t rfl; simp [RTag]))).setCell (hS3.tag H2.blk.lt ht2) (by simp [RTag]) _
  have hb3 := hS3.blk' H2.blk ht2 (by simp)
  have y5 := hb3.cell (i := 2) rfl
  have y5f := hb3.free 2
  have y6 := hb3.cell (i := 0) rfl
  clear y3 y3f y4 y4f hO3 hS3 hb3 ho2 H2 ht2 hS2'
  go_wp2
  go_ret
  exact ⟨ρ3, by simp, ⟨_, _, _, _, _, _, _, _, H3⟩, hS3'⟩

end Go.Proofs.Ytgejmgomliadmaa
