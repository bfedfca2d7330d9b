/- The store in memory: field, Get, Set. -/
import Derived.Test.YtgejmgomliadmaaStI
set_option linter.unusedVariables false
namespace Go.Proofs.Ytgejmgomliadmaa
open Go Go.RowKit

def RetPost (v : Value) (w : World) (e : Ending) (w' : World) : Prop := e = .returned v ∧ Below w.heap.size w w'

theorem field_closed (w : World) (ρ : Ghost) (a : Nat) (s : PSt) (H : Rep w ρ a s) (n x f : Int) (ho : isOpenB s n = false) :
    Calls Try.prog 40 #[.pointer (some ⟨a, 0, none⟩), .int .i64 n, .int .i64 x, .int .i64 f] w (RetPost (.tuple #[.int .i64 0, .int .i64 70]) w) := by
  go_enter Try.func40, Try.ntmps40
  go_wp2_with fail
  refine (find_none w ρ a s H n ho).mono ?_
  rintro e w' ⟨rfl, rfl⟩
  go_wp2
  go_ret2
  exact ⟨rfl, Below.refl _ _⟩

/-- What the search in a region's cells asks. -/
structure ClsOk (r : PReg) : Prop where
  rise : Rising (ats r.cls)
  ncls : r.cls.length ≤ 1000
  inb : ∀ c ∈ r.cls, InB c.1

theorem field_none (w : World) (ρ : Ghost) (a : Nat) (s : PSt) (H : Rep w ρ a s) (i : Nat) (r : PReg) (hi : s.regs[i]? = some r) (hr : r.op = true) (hok : ClsOk r) (x f : Int)
    (hx : ¬ (placeOf (ats r.cls) x < r.cls.length ∧ (ats r.cls).getD (placeOf (ats r.cls) x) 0 = x)) :
    Calls Try.prog 40 #[.pointer (some ⟨a, 0, none⟩), .int .i64 i, .int .i64 x, .int .i64 f] w (RetPost (.tuple #[.int .i64 0, .int .i64 71]) w) := by
  obtain ⟨vr, vp, vw, css, H⟩ := H
  obtain ⟨g, c, vrp, vrc, hv, hn1, hn2, hgt, hgl, hcsi, hOrp, hOrc, _, _, x2, _, _, _⟩ := H.reg hi
  have HF := Hd.mk (find_open w ρ a s vr vp vw css H i r hi hr g c hv)
  have HX := Hd.mk hx
  have HOK := Hd.mk hok
  obtain ⟨Ac, cc, rfl, hcc1, hcc2⟩ := hOrc.form
  have HOC := Hd.mk hOrc
  clear H hv hcsi hOrp hi hr hx hOrc
  go_enter Try.func40, Try.ntmps40
  go_wp2_with fail
  refine HF.out.mono ?_
  rintro e w' ⟨rfl, rfl⟩
  go_wp2_with fail
  refine (bsf_any 49 (fun _ => True) cmp2 cf2 w ρ (6, i) Ac cc r.cls HOC.out x (Nat.le_trans HOK.out.ncls (by decide)) HOK.out.rise trivial (fun _ _ => trivial)).mono ?_
  rintro e w1 ⟨k, b, rfl, hpl, hb, hbel⟩
  have hbf : b = false := by
    rw [ats_length, ← placeOf_eq hpl] at hb
    have := HX.out
    cases b
    · rfl
    · exact absurd (hb.1 rfl) this
  subst hbf
  have HB := Hd.mk hbel
  clear hb hpl hbel
  go_wp2
  go_ret2
  exact ⟨rfl, HB.out⟩

theorem field_bad (w : World) (ρ : Ghost) (a : Nat) (s : PSt) (H : Rep w ρ a s) (i : Nat) (r : PReg) (hi : s.regs[i]? = some r) (hr : r.op = true) (hok : ClsOk r) (x y f : Int)
    (hx : r.cls[placeOf (ats r.cls) x]? = some (x, y)) (hf : f < 0 ∨ y ≤ f) :
    Calls Try.prog 40 #[.pointer (some ⟨a, 0, none⟩), .int .i64 i, .int .i64 x, .int .i64 f] w (RetPost (.tuple #[.int .i64 0, .int .i64 72]) w) := by
  obtain ⟨vr, vp, vw, css, H⟩ := H
  obtain ⟨g, c, vrp, vrc, hv, hn1, hn2, hgt, hgl, hcsi, hOrp, hOrc, _, _, x2, _, _, xf⟩ := H.reg hi
  have HF := Hd.mk (find_open w ρ a s vr vp vw css H i r hi hr g c hv)
  have HX := Hd.mk hx
  have HOK := Hd.mk hok
  have hkl : placeOf (ats r.cls) x < r.cls.length := (List.getElem?_eq_some_iff.1 hx).1
  obtain ⟨gc, cc, rfl, hgc, hcc1, hcc2, hcell, _, hgcl⟩ := hOrc.some (by omega)
  have HOC := Hd.mk hOrc
  have p1 := (pairs_get hx).1
  have p2 := (pairs_get hx).2
  have c1 := hcell (placeOf (ats r.cls) x * 2) (by omega)
  have c2 := hcell (placeOf (ats r.cls) x * 2 + 1) (by omega)
  rw [p1] at c1
  rw [p2] at c2
  dsimp only at c1 c2
  have hn := hok.ncls
  generalize hk : placeOf (ats r.cls) x = k at *
  have HK := Hd.mk hk
  clear H hv hcsi hOrp hi hr hx hOrc hcell p1 p2 hk
  go_enter Try.func40, Try.ntmps40
  go_wp2_with fail
  refine HF.out.mono ?_
  rintro e w' ⟨rfl, rfl⟩
  go_wp2_with fail
  refine (bsf_any 49 (fun _ => True) cmp2 cf2 w ρ (6, i) _ cc r.cls HOC.out x (Nat.le_trans HOK.out.ncls (by decide)) HOK.out.rise trivial (fun _ _ => trivial)).mono ?_
  rintro e w1 ⟨k', b, rfl, hpl, hb, hbel⟩
  obtain rfl : k' = k := by rw [← HK.out, placeOf_eq hpl]
  have hbf : b = true := hb.2 ⟨by rw [ats_length]; exact hkl, ats_get HX.out⟩
  subst hbf
  have q1 := (hbel.cell (p := ⟨gc, k' * 2, none⟩) hgcl).trans c1
  have q2 := (hbel.cell (p := ⟨gc, k' * 2 + 1, none⟩) hgcl).trans c2
  have q3 := (hbel.cell (p := ⟨g, i * 5 + 2, none⟩) hgl).trans x2
  have HB := Hd.mk hbel
  clear hb hpl hbel c1 c2 x2 xf
  rcases hf with hf | hf
  · go_wp2
    go_ret2
    exact ⟨rfl, HB.out⟩
  · have hf' : f < 0 ∨ 0 ≤ f := by omega
    rcases hf' with h0 | h0
    · go_wp2
      go_ret2
      exact ⟨rfl, HB.out⟩
    · go_wp2
      go_ret2
      exact ⟨rfl, HB.out⟩

theorem field_ok (w : World) (ρ : Ghost) (a : Nat) (s : PSt) (H : Rep w ρ a s) (i : Nat) (r : PReg) (hi : s.regs[i]? = some r) (hr : r.op = true) (hok : ClsOk r) (x y f : Int)
    (hx : r.cls[placeOf (ats r.cls) x]? = some (x, y)) (hf1 : 0 ≤ f) (hf2 : f < y) (hyb : y ≤ 100000) :
    Calls Try.prog 40 #[.pointer (some ⟨a, 0, none⟩), .int .i64 i, .int .i64 x, .int .i64 f] w (RetPost (.tuple #[.int .i64 (x + f), .int .i64 0]) w) := by
  obtain ⟨vr, vp, vw, css, H⟩ := H
  obtain ⟨g, c, vrp, vrc, hv, hn1, hn2, hgt, hgl, hcsi, hOrp, hOrc, _, _, x2, _, _, xf⟩ := H.reg hi
  have HF := Hd.mk (find_open w ρ a s vr vp vw css H i r hi hr g c hv)
  have HX := Hd.mk hx
  have HOK := Hd.mk hok
  have hkl : placeOf (ats r.cls) x < r.cls.length := (List.getElem?_eq_some_iff.1 hx).1
  obtain ⟨gc, cc, rfl, hgc, hcc1, hcc2, hcell, _, hgcl⟩ := hOrc.some (by omega)
  have HOC := Hd.mk hOrc
  have p1 := (pairs_get hx).1
  have p2 := (pairs_get hx).2
  have c1 := hcell (placeOf (ats r.cls) x * 2) (by omega)
  have c2 := hcell (placeOf (ats r.cls) x * 2 + 1) (by omega)
  rw [p1] at c1
  rw [p2] at c2
  dsimp only at c1 c2
  have hn := hok.ncls
  obtain ⟨hx0, hx1⟩ := hok.inb _ (List.mem_of_getElem? hx)
  dsimp only at hx0 hx1
  generalize hk : placeOf (ats r.cls) x = k at *
  have HK := Hd.mk hk
  clear H hv hcsi hOrp hi hr hx hOrc hcell p1 p2 hk
  go_enter Try.func40, Try.ntmps40
  go_wp2_with fail
  refine HF.out.mono ?_
  rintro e w' ⟨rfl, rfl⟩
  go_wp2_with fail
  refine (bsf_any 49 (fun _ => True) cmp2 cf2 w ρ (6, i) _ cc r.cls HOC.out x (Nat.le_trans HOK.out.ncls (by decide)) HOK.out.rise trivial (fun _ _ => trivial)).mono ?_
  rintro e w1 ⟨k', b, rfl, hpl, hb, hbel⟩
  obtain rfl : k' = k := by rw [← HK.out, placeOf_eq hpl]
  have hbf : b = true := hb.2 ⟨by rw [ats_length]; exact hkl, ats_get HX.out⟩
  subst hbf
  have q1 := (hbel.cell (p := ⟨gc, k' * 2, none⟩) hgcl).trans c1
  have q2 := (hbel.cell (p := ⟨gc, k' * 2 + 1, none⟩) hgcl).trans c2
  have q3 := (hbel.cell (p := ⟨g, i * 5 + 2, none⟩) hgl).trans x2
  have HB := Hd.mk hbel
  clear hb hpl hbel c1 c2 x2 xf
  go_wp2
  go_ret2
  exact ⟨rfl, HB.out⟩

end Go.Proofs.Ytgejmgomliadmaa
