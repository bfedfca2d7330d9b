/- OpA, OpB, OpC, OpD, RnA, RnB, RnW: lemmas and walks of the claim. -/
import Derived.Test.YtadffbgbndibpaaKGaS
import Derived.Test.YtadffbgbndibpaaRows
import Derived.Test.YtadffbgbndibpaaKFlB
import Derived.Deep.Slices
import Derived.Deep.Fields
import Derived.ChangeSame
import Derived.WideShapes
set_option linter.unusedSectionVars false
set_option linter.unusedVariables false
set_option linter.unusedSimpArgs false
set_option maxHeartbeats 16000000
set_option maxRecDepth 100000
namespace Go.Proofs.Ytadffbgbndibpaa
section
open Go Go.RowKit Go.ChangeShapes Go.WideShapes Go.Deep
theorem bulk_one {H:Type} (d:DataW H):1≤Rows.uptoBulk d:=by
 cases d with
 |lit l=>cases l <;> simp [Rows.uptoBulk]
 |_=>simp [Rows.uptoBulk]
theorem bulk_part {H:Type} {d:DataW H} {l:List (DataW H)} (h:d ∈ l):Rows.uptoBulk d≤Rows.uptoBulkAll l:=by
 induction l with
 |nil=>cases h
 |cons x r ih =>
  simp only [Rows.uptoBulkAll]
  cases List.mem_cons.1 h with
  |inl e=>subst e;omega
  |inr e=>have:=ih e;omega
theorem bulk_len {H:Type} (l:List (DataW H)):l.length≤Rows.uptoBulkAll l:=by
 induction l with
 |nil=>simp [Rows.uptoBulkAll]
 |cons x r ih=>have:=bulk_one x;simp only [Rows.uptoBulkAll,List.length_cons];omega
theorem cell_spotN {w:World} {a:Addr} {v:Value} (h:w.cell? a=some v):a.spot=none:=by
 unfold World.cell? at h
 split at h
 ·split at h
  ·cases h
  ·rename_i h2;simpa using h2
 ·cases h
theorem add_noneN {a:Addr} (h:a.spot=none) (k:Nat):a.add k=⟨a.block,a.off+k,none⟩:=by
 unfold Addr.add
 split
 ·rename_i hk;subst hk;cases a;simp at h;simp [h]
 ·rfl
theorem slr_open {H:Type} {enc:TypeId × Value→H} {w:World} {held:Bool} {fuel:Nat} {α:Type} {R:α→List Value→Prop} {t e:TypeId} {sz byt:Nat} (ht:Try.prog.underlying t=some (.slice e)) (hC:Try.prog.cellsOf e=sz) (hz:0<sz) (hby:byt≤134217728) {cs:List Value} {x:DataW H × List MemPlace} (h:DataW.trod enc Try.prog w 0 (fun _=>true) held fuel t cs=some x) (hbk:Rows.uptoBulk x.1≤1048576) (hel:∀ (n:Nat) (cs':List Value) (y:DataW H × List MemPlace),DataW.trod enc Try.prog w 0 (fun _=>true) held n e cs'=some y→Rows.uptoBulk y.1+1≤Rows.uptoBulk x.1→∃ a,R a cs') :
 ∃ v l,cs=[v]∧SlR w NoG sz byt R v l:=by
 rcases open_slice ht h with ⟨rfl,_⟩|⟨a,len,cap,m,n,D,Pl,rfl,_,hl,hm,hmm,rfl,hi⟩
 ·exact ⟨_,[],rfl,SlR.nil _ _ _ _ _⟩
 simp only [if_true] at hmm
 subst hmm
 simp only [hC] at hi
 simp only [Rows.uptoBulk] at hbk hel
 have hlen:len≤1048575:=by
  have:=bulk_len ((List.range len).map D)
  simp only [List.length_map,List.length_range] at this
  omega
 have key:∀ i,i<len→∃ p:α,a.spot=none∧a.block<w.heap.size∧∃ cs':List Value,cs'.length=sz∧R p cs'∧∀ j u,cs'[j]? =some u→w.cell? ⟨a.block,a.off+i*sz+j,none⟩=some u:=by
  intro i hil
  obtain ⟨cs',hc,ht'⟩:=hi i (by omega)
  obtain ⟨_,hcl,hat⟩:=World.cells?_some hc
  obtain ⟨p,hp⟩:=hel n cs' _ ht' (by
   have:=bulk_part (List.mem_map_of_mem (f:=D) (List.mem_range.2 hil))
   dsimp only
   omega)
  have hc0:=hat 0 hz
  rw [List.getElem?_eq_getElem (by omega)] at hc0
  have hsp:a.spot=none:=by
   cases hs:a.spot with
   |none=>rfl
   |some q =>
    obtain ⟨cs0,hc0',_⟩:=hi 0 (by omega)
    obtain ⟨_,hcl0,hat0⟩:=World.cells?_some hc0'
    have h00:=hat0 0 hz
    rw [List.getElem?_eq_getElem (by omega),Nat.zero_mul] at h00
    have:=cell_spotN (a:=a) (by simpa [Addr.add] using h00)
    rw [hs] at this;cases this
  have hb:a.block<w.heap.size:=by
   rw [add_noneN hsp,add_noneN (a:=⟨a.block,a.off+i*sz,none⟩) rfl] at hc0
   exact World.block_lt_of_cell? w ⟨a.block,a.off+i*sz+0,none⟩ hc0
  refine ⟨p,hsp,hb,cs',hcl,hp,fun j u hj=>?_⟩
  have hjl:=(List.getElem?_eq_some_iff.1 hj).1
  have:=hat j (by omega)
  rw [hj,add_noneN hsp,add_noneN (a:=⟨a.block,a.off+i*sz,none⟩) rfl] at this
  exact this
 refine ⟨_,(List.range len).pmap (fun i hi=>Classical.choose (key i hi)) (fun i hi=>List.mem_range.1 hi),?_,some a,m,rfl,by simpa using hl,hm,?_,?_⟩
 ·simp
 ·simp only [List.length_pmap,List.length_range]
  exact Nat.le_trans (Nat.mul_le_mul (by omega:len≤1048576) hby) (by omega)
 ·intro i x hx
  have hil:i<len:=by
   have:=(List.getElem?_eq_some_iff.1 hx).1
   simpa using this
  rw [List.getElem?_eq_getElem (by simpa using hil),List.getElem_pmap] at hx
  injection hx with hx
  simp only [List.getElem_range] at hx
  subst hx
  obtain ⟨hsp,hb,cs',h1,h2,h3⟩:=Classical.choose_spec (key i hil)
  exact ⟨a.block,a.off,cs',by cases a;simp at hsp;simp [hsp],rfl,hb,h1,h2,h3⟩
end
section
open Go Go.RowKit Go.ChangeShapes Go.WideShapes Go.Deep
def FieldAt (T i ft off k:Nat):Prop:=∃ fs f,Try.prog.underlying T=some (.struct fs)∧fs[i]? =some f∧f.type=ft∧f.offset=off∧Try.prog.cellsOf ft=k
section
variable {H:Type} {enc:TypeId × Value→H} {w:World} {held:Bool}
section
variable {fuel T i ft off k:Nat} {cs:List Value} {x:DataW H × List MemPlace} (hF:FieldAt T i ft off k) (h:DataW.trod enc Try.prog w 0 (fun _=>true) held fuel T cs=some x)
include fuel T i ft off k cs x hF h
theorem fld :
 ∃ n y,DataW.trod enc Try.prog w 0 (fun _=>true) held n ft ((cs.drop off).take k)=some y∧Rows.uptoBulk y.1+1≤Rows.uptoBulk x.1:=by
 obtain ⟨fs,f,hu,hf,rfl,rfl,rfl⟩:=hF
 obtain ⟨xs,n,_,rfl,_,hl,hc⟩:=DataW.trod_struct hu h
 have hi:i<xs.length:=by rw [hl];exact (Array.getElem?_eq_some_iff.1 hf).1
 have h1:=hc i f hf
 rw [List.getElem?_eq_getElem hi] at h1
 refine ⟨n,_,h1,?_⟩
 have:=bulk_part (List.mem_map_of_mem (f:=fun y:DataW H × List MemPlace=>y.1) (List.getElem_mem hi))
 simp only [Rows.uptoBulk]
 omega
theorem fld_len:cs.length=Try.prog.cellsOf T:=by
 obtain ⟨fs,f,hu,hf,rfl,rfl,rfl⟩:=hF
 obtain ⟨xs,n,_,_,hl,_⟩:=DataW.trod_struct hu h
 exact hl
end
theorem int_open {fuel t:Nat} {cs:List Value} {x:DataW H × List MemPlace} (ht:Try.prog.underlying t=some (.int .i64)) (h:DataW.trod enc Try.prog w 0 (fun _=>true) held fuel t cs=some x):∃ z,cs=[.int .i64 z]∧I64 z:=by
 obtain ⟨z,e,_,wz⟩:=DataW.trod_int ht h
 refine ⟨z,e,?_⟩
 simp only [Lit.wf,Bool.and_eq_true,decide_eq_true_eq] at wz
 rw [show IntKind.i64.min= -9223372036854775808 from rfl,show IntKind.i64.max=9223372036854775807 from rfl] at wz
 exact wz
theorem ints_open {fuel t e byt:Nat} {cs:List Value} {x:DataW H × List MemPlace} (ht:Try.prog.underlying t=some (.slice e)) (he:Try.prog.underlying e=some (.int .i64)) (hC:Try.prog.cellsOf e=1) (hby:byt≤134217728) (h:DataW.trod enc Try.prog w 0 (fun _=>true) held fuel t cs=some x) (hbk:Rows.uptoBulk x.1≤1048576):∃ v l,cs=[v]∧SlR w NoG 1 byt IntR v l :=
 slr_open ht hC (by decide) hby h hbk (fun n cs' y hy _=>int_open he hy)
theorem strs_open {fuel t e:Nat} {cs:List Value} {x:DataW H × List MemPlace} (ht:Try.prog.underlying t=some (.slice e)) (he:Try.prog.underlying e=some .string) (hC:Try.prog.cellsOf e=1) (h:DataW.trod enc Try.prog w 0 (fun _=>true) held fuel t cs=some x) (hbk:Rows.uptoBulk x.1≤1048576):∃ v l,cs=[v]∧StrsR w NoG v l :=
 slr_open ht hC (by decide) (by decide) h hbk (fun n cs' y hy _=>by
  obtain ⟨s,e,_,hs⟩:=DataW.trod_string he hy
  exact ⟨s,e,hs⟩)
theorem u_int:Try.prog.underlying 3=some (.int .i64):=by kernel_rfl
theorem u_ints:Try.prog.underlying 38=some (.slice 3):=by kernel_rfl
theorem c_int:Try.prog.cellsOf 3=1:=by kernel_rfl
theorem u_str:Try.prog.underlying 9=some .string:=by kernel_rfl
theorem u_strs:Try.prog.underlying 23=some (.slice 9):=by kernel_rfl
theorem c_str:Try.prog.cellsOf 9=1:=by kernel_rfl
theorem len1 {cs:List Value} (h:cs.length=1):∃ a,cs=[a]:=by
 match cs,h with
 |[a],_=>exact ⟨a,rfl⟩
theorem f_eff0:FieldAt 40 0 38 0 1:=⟨_,_,Try.underlying40,rfl,by kernel_rfl,by kernel_rfl,by kernel_rfl⟩
theorem f_eff1:FieldAt 40 1 38 1 1:=⟨_,_,Try.underlying40,rfl,by kernel_rfl,by kernel_rfl,by kernel_rfl⟩
theorem c_eff:Try.prog.cellsOf 40=2:=by kernel_rfl
theorem eff_open {fuel:Nat} {cs:List Value} {x:DataW H × List MemPlace} (h:DataW.trod enc Try.prog w 0 (fun _=>true) held fuel 40 cs=some x) (hbk:Rows.uptoBulk x.1≤1048576):∃ e,EffR w NoG e cs:=by
 have hl:=fld_len f_eff0 h
 rw [c_eff] at hl
 obtain ⟨a,b,rfl⟩:∃ a b,cs=[a,b]:=by
  match cs,hl with
  |[a,b],_=>exact ⟨a,b,rfl⟩
 obtain ⟨n0,y0,h0,k0⟩:=fld f_eff0 h
 obtain ⟨n1,y1,h1,k1⟩:=fld f_eff1 h
 obtain ⟨v0,l0,e0,s0⟩:=ints_open (byt:=134217728) u_ints u_int c_int (by decide) h0 (by omega)
 obtain ⟨v1,l1,e1,s1⟩:=ints_open (byt:=134217728) u_ints u_int c_int (by decide) h1 (by omega)
 cases e0;cases e1
 exact ⟨⟨l0,l1⟩,_,_,rfl,s0,s1⟩
end
end
section
open Go Go.RowKit Go.ChangeShapes Go.WideShapes Go.Deep
theorem f_ty0:FieldAt 43 0 3 0 1:=⟨_,_,Try.underlying43,rfl,by kernel_rfl,by kernel_rfl,by kernel_rfl⟩
theorem f_ty1:FieldAt 43 1 3 1 1:=⟨_,_,Try.underlying43,rfl,by kernel_rfl,by kernel_rfl,by kernel_rfl⟩
theorem f_ty2:FieldAt 43 2 9 2 1:=⟨_,_,Try.underlying43,rfl,by kernel_rfl,by kernel_rfl,by kernel_rfl⟩
theorem f_ty3:FieldAt 43 3 41 3 1:=⟨_,_,Try.underlying43,rfl,by kernel_rfl,by kernel_rfl,by kernel_rfl⟩
theorem f_ty4:FieldAt 43 4 3 4 1:=⟨_,_,Try.underlying43,rfl,by kernel_rfl,by kernel_rfl,by kernel_rfl⟩
theorem f_ty5:FieldAt 43 5 40 5 2:=⟨_,_,Try.underlying43,rfl,by kernel_rfl,by kernel_rfl,by kernel_rfl⟩
theorem f_bk0:FieldAt 46 0 3 0 1:=⟨_,_,Try.underlying46,rfl,by kernel_rfl,by kernel_rfl,by kernel_rfl⟩
theorem f_bk1:FieldAt 46 1 38 1 1:=⟨_,_,Try.underlying46,rfl,by kernel_rfl,by kernel_rfl,by kernel_rfl⟩
theorem f_bk2:FieldAt 46 2 44 2 1:=⟨_,_,Try.underlying46,rfl,by kernel_rfl,by kernel_rfl,by kernel_rfl⟩
theorem f_bk3:FieldAt 46 3 3 3 1:=⟨_,_,Try.underlying46,rfl,by kernel_rfl,by kernel_rfl,by kernel_rfl⟩
theorem f_st0:FieldAt 94 0 3 0 1:=⟨_,_,Try.underlying94,rfl,by kernel_rfl,by kernel_rfl,by kernel_rfl⟩
theorem f_st1:FieldAt 94 1 3 1 1:=⟨_,_,Try.underlying94,rfl,by kernel_rfl,by kernel_rfl,by kernel_rfl⟩
theorem f_st2:FieldAt 94 2 43 2 7:=⟨_,_,Try.underlying94,rfl,by kernel_rfl,by kernel_rfl,by kernel_rfl⟩
theorem f_st3:FieldAt 94 3 38 9 1:=⟨_,_,Try.underlying94,rfl,by kernel_rfl,by kernel_rfl,by kernel_rfl⟩
theorem f_st4:FieldAt 94 4 2 10 1:=⟨_,_,Try.underlying94,rfl,by kernel_rfl,by kernel_rfl,by kernel_rfl⟩
theorem f_st5:FieldAt 94 5 3 11 1:=⟨_,_,Try.underlying94,rfl,by kernel_rfl,by kernel_rfl,by kernel_rfl⟩
theorem f_st6:FieldAt 94 6 41 12 1:=⟨_,_,Try.underlying94,rfl,by kernel_rfl,by kernel_rfl,by kernel_rfl⟩
theorem f_st7:FieldAt 94 7 91 13 1:=⟨_,_,Try.underlying94,rfl,by kernel_rfl,by kernel_rfl,by kernel_rfl⟩
theorem f_st8:FieldAt 94 8 38 14 1:=⟨_,_,Try.underlying94,rfl,by kernel_rfl,by kernel_rfl,by kernel_rfl⟩
theorem f_st9:FieldAt 94 9 38 15 1:=⟨_,_,Try.underlying94,rfl,by kernel_rfl,by kernel_rfl,by kernel_rfl⟩
theorem f_st10:FieldAt 94 10 3 16 1:=⟨_,_,Try.underlying94,rfl,by kernel_rfl,by kernel_rfl,by kernel_rfl⟩
theorem f_st11:FieldAt 94 11 38 17 1:=⟨_,_,Try.underlying94,rfl,by kernel_rfl,by kernel_rfl,by kernel_rfl⟩
theorem f_st12:FieldAt 94 12 92 18 1:=⟨_,_,Try.underlying94,rfl,by kernel_rfl,by kernel_rfl,by kernel_rfl⟩
theorem u_i64:Try.prog.underlying 2=some (.int .i64):=by kernel_rfl
theorem u_tys:Try.prog.underlying 41=some (.slice 43):=by kernel_rfl
theorem u_sts:Try.prog.underlying 44=some (.slice 94):=by kernel_rfl
theorem u_bks:Try.prog.underlying 92=some (.slice 46):=by kernel_rfl
theorem u_effs:Try.prog.underlying 91=some (.slice 40):=by kernel_rfl
theorem c_ty:Try.prog.cellsOf 43=7:=by kernel_rfl
theorem c_st:Try.prog.cellsOf 94=19:=by kernel_rfl
theorem c_bk:Try.prog.cellsOf 46=4:=by kernel_rfl
section
variable {H:Type} {enc:TypeId × Value→H} {w:World} {held:Bool}
theorem ty_open:∀ (N:Nat) {fuel:Nat} {cs:List Value} {x:DataW H × List MemPlace},DataW.trod enc Try.prog w 0 (fun _=>true) held fuel 43 cs=some x→Rows.uptoBulk x.1≤N→N≤1048576→∃ t,TyR w NoG N t cs
 |0,_,_,x,_,hN,_=>by have:=bulk_one x.1;omega
 |N+1,fuel,cs,x,h,hN,hM=>by
  have hl:=fld_len f_ty0 h
  rw [c_ty] at hl
  obtain ⟨c0,c1,c2,c3,c4,c5,c6,rfl⟩:∃ c0 c1 c2 c3 c4 c5 c6,cs=[c0,c1,c2,c3,c4,c5,c6]:=by
   match cs,hl with
   |[c0,c1,c2,c3,c4,c5,c6],_=>exact ⟨c0,c1,c2,c3,c4,c5,c6,rfl⟩
  obtain ⟨n0,y0,h0,k0⟩:=fld f_ty0 h
  obtain ⟨n1,y1,h1,k1⟩:=fld f_ty1 h
  obtain ⟨n2,y2,h2,k2⟩:=fld f_ty2 h
  obtain ⟨n3,y3,h3,k3⟩:=fld f_ty3 h
  obtain ⟨n4,y4,h4,k4⟩:=fld f_ty4 h
  obtain ⟨n5,y5,h5,k5⟩:=fld f_ty5 h
  obtain ⟨z0,e0,s0⟩:=int_open u_int h0
  cases e0
  obtain ⟨z1,e1,s1⟩:=int_open u_int h1
  cases e1
  obtain ⟨z2,e2,_,s2⟩:=DataW.trod_string u_str h2
  cases e2
  obtain ⟨v3,l3,e3,s3⟩:=slr_open (w:=w) (byt:=112) (R:=TyR w NoG N) u_tys c_ty (by decide) (by decide) h3 (by omega) (fun n cs' y hy hb=>ty_open N hy (by omega) (by omega))
  cases e3
  obtain ⟨z4,e4,s4⟩:=int_open u_int h4
  cases e4
  obtain ⟨e,v1,v2,e5,s5,s6⟩:=eff_open h5 (by omega)
  cases e5
  exact ⟨.mk z0 z1 z2 l3 z4 e,_,_,_,rfl,s0,s1,s4,s2,s3,s5,s6⟩
section
variable (N:Nat) {fuel:Nat} {cs:List Value} {x:DataW H × List MemPlace}
include N fuel cs x
theorem tys_open (h:DataW.trod enc Try.prog w 0 (fun _=>true) held fuel 41 cs=some x) (hN:Rows.uptoBulk x.1≤N) (hM:N≤1048576):∃ v l,cs=[v]∧TysR w NoG N v l :=
 slr_open u_tys c_ty (by decide) (by decide) h (by omega) (fun n cs' y hy hb=>ty_open N hy (by omega) hM)
theorem st_open {B:Bk→List Value→Prop} (h:DataW.trod enc Try.prog w 0 (fun _=>true) held fuel 94 cs=some x) (hN:Rows.uptoBulk x.1≤N) (hM:N≤1048576) (hB:∀ (n:Nat) (cs':List Value) (y:DataW H × List MemPlace),DataW.trod enc Try.prog w 0 (fun _=>true) held n 46 cs'=some y→Rows.uptoBulk y.1+1≤Rows.uptoBulk x.1→∃ b,B b cs'):∃ s,StR w NoG N B s cs:=by
 have hl:=fld_len f_st0 h
 rw [c_st] at hl
 obtain ⟨c0,c1,c2,c3,c4,c5,c6,c7,c8,c9,c10,c11,c12,c13,c14,c15,c16,c17,c18,rfl⟩:∃ c0 c1 c2 c3 c4 c5 c6 c7 c8 c9 c10 c11 c12 c13 c14 c15 c16 c17 c18,cs=[c0,c1,c2,c3,c4,c5,c6,c7,c8,c9,c10,c11,c12,c13,c14,c15,c16,c17,c18]:=by
  match cs,hl with
  |[c0,c1,c2,c3,c4,c5,c6,c7,c8,c9,c10,c11,c12,c13,c14,c15,c16,c17,c18],_=>exact ⟨c0,c1,c2,c3,c4,c5,c6,c7,c8,c9,c10,c11,c12,c13,c14,c15,c16,c17,c18,rfl⟩
 obtain ⟨n0,y0,h0,k0⟩:=fld f_st0 h
 obtain ⟨n1,y1,h1,k1⟩:=fld f_st1 h
 obtain ⟨n2,y2,h2,k2⟩:=fld f_st2 h
 obtain ⟨n3,y3,h3,k3⟩:=fld f_st3 h
 obtain ⟨n4,y4,h4,k4⟩:=fld f_st4 h
 obtain ⟨n5,y5,h5,k5⟩:=fld f_st5 h
 obtain ⟨n6,y6,h6,k6⟩:=fld f_st6 h
 obtain ⟨n7,y7,h7,k7⟩:=fld f_st7 h
 obtain ⟨n8,y8,h8,k8⟩:=fld f_st8 h
 obtain ⟨n9,y9,h9,k9⟩:=fld f_st9 h
 obtain ⟨n10,y10,h10,k10⟩:=fld f_st10 h
 obtain ⟨n11,y11,h11,k11⟩:=fld f_st11 h
 obtain ⟨n12,y12,h12,k12⟩:=fld f_st12 h
 obtain ⟨z0,e0,s0⟩:=int_open u_int h0
 cases e0
 obtain ⟨z1,e1,s1⟩:=int_open u_int h1
 cases e1
 obtain ⟨t2,s2⟩:=ty_open N h2 (by omega) hM
 obtain ⟨v3,l3,e3,s3⟩:=ints_open (byt:=134217728) u_ints u_int c_int (by decide) h3 (by omega)
 cases e3
 obtain ⟨z4,e4,s4⟩:=int_open u_i64 h4
 cases e4
 obtain ⟨z5,e5,s5⟩:=int_open u_int h5
 cases e5
 obtain ⟨v6,l6,e6,s6⟩:=tys_open N h6 (by omega) hM
 cases e6
 obtain ⟨v7,l7,e7,s7⟩:=slr_open (w:=w) (byt:=48) (R:=EffR w NoG) u_effs c_eff (by decide) (by decide) h7 (by omega) (fun n cs' y hy hb=>eff_open hy (by omega))
 cases e7
 obtain ⟨v8,l8,e8,s8⟩:=ints_open (byt:=134217728) u_ints u_int c_int (by decide) h8 (by omega)
 cases e8
 obtain ⟨v9,l9,e9,s9⟩:=ints_open (byt:=134217728) u_ints u_int c_int (by decide) h9 (by omega)
 cases e9
 obtain ⟨z10,e10,s10⟩:=int_open u_int h10
 cases e10
 obtain ⟨v11,l11,e11,s11⟩:=ints_open (byt:=134217728) u_ints u_int c_int (by decide) h11 (by omega)
 cases e11
 obtain ⟨v12,l12,e12,s12⟩:=slr_open (w:=w) (byt:=64) (R:=B) u_bks c_bk (by decide) (by decide) h12 (by omega) (fun n cs' y hy hb=>hB n cs' y hy (by omega))
 cases e12
 exact ⟨.mk z0 z1 t2 l3 z4 z5 l6 l7 l8 l9 z10 l11 l12,_,_,_,_,_,_,_,_,rfl,s0,s1,s4,s5,s10,s2,s3,s6,s7,s8,s9,s11,s12⟩
end
theorem bk_open:∀ (N:Nat) {fuel:Nat} {cs:List Value} {x:DataW H × List MemPlace},DataW.trod enc Try.prog w 0 (fun _=>true) held fuel 46 cs=some x→Rows.uptoBulk x.1≤N→N≤1048576→∃ b,BkR w NoG N b cs
 |0,_,_,x,_,hN,_=>by have:=bulk_one x.1;omega
 |N+1,fuel,cs,x,h,hN,hM=>by
  have hl:=fld_len f_bk0 h
  rw [c_bk] at hl
  obtain ⟨c0,c1,c2,c3,rfl⟩:∃ c0 c1 c2 c3,cs=[c0,c1,c2,c3]:=by
   match cs,hl with
   |[c0,c1,c2,c3],_=>exact ⟨c0,c1,c2,c3,rfl⟩
  obtain ⟨n0,y0,h0,k0⟩:=fld f_bk0 h
  obtain ⟨n1,y1,h1,k1⟩:=fld f_bk1 h
  obtain ⟨n2,y2,h2,k2⟩:=fld f_bk2 h
  obtain ⟨n3,y3,h3,k3⟩:=fld f_bk3 h
  obtain ⟨z0,e0,s0⟩:=int_open u_int h0
  cases e0
  obtain ⟨v1,l1,e1,s1⟩:=ints_open (byt:=134217728) u_ints u_int c_int (by decide) h1 (by omega)
  cases e1
  obtain ⟨v2,l2,e2,s2⟩:=slr_open (w:=w) (byt:=320) (R:=StR w NoG N (BkR w NoG N)) u_sts c_st (by decide) (by decide) h2 (by omega) (fun n cs' y hy hb=>st_open N hy (by omega) (by omega) (fun n cs'' y' hy' hb'=>bk_open N hy' (by omega) (by omega)))
  cases e2
  obtain ⟨z3,e3,s3⟩:=int_open u_int h3
  cases e3
  exact ⟨.mk z0 l1 l2 z3,_,_,rfl,s0,s3,s1,s2⟩
end
end
section
open Go Go.RowKit Go.ChangeShapes Go.WideShapes Go.Deep
theorem f_con0:FieldAt 80 0 9 0 1:=⟨_,_,Try.underlying80,rfl,by kernel_rfl,by kernel_rfl,by kernel_rfl⟩
theorem f_con1:FieldAt 80 1 41 1 1:=⟨_,_,Try.underlying80,rfl,by kernel_rfl,by kernel_rfl,by kernel_rfl⟩
theorem f_dat0:FieldAt 73 0 9 0 1:=⟨_,_,Try.underlying73,rfl,by kernel_rfl,by kernel_rfl,by kernel_rfl⟩
theorem f_dat1:FieldAt 73 1 23 1 1:=⟨_,_,Try.underlying73,rfl,by kernel_rfl,by kernel_rfl,by kernel_rfl⟩
theorem f_dat2:FieldAt 73 2 71 2 1:=⟨_,_,Try.underlying73,rfl,by kernel_rfl,by kernel_rfl,by kernel_rfl⟩
theorem f_fun0:FieldAt 48 0 9 0 1:=⟨_,_,Try.underlying48,rfl,by kernel_rfl,by kernel_rfl,by kernel_rfl⟩
theorem f_fun1:FieldAt 48 1 3 1 1:=⟨_,_,Try.underlying48,rfl,by kernel_rfl,by kernel_rfl,by kernel_rfl⟩
theorem f_fun2:FieldAt 48 2 3 2 1:=⟨_,_,Try.underlying48,rfl,by kernel_rfl,by kernel_rfl,by kernel_rfl⟩
theorem f_fun3:FieldAt 48 3 3 3 1:=⟨_,_,Try.underlying48,rfl,by kernel_rfl,by kernel_rfl,by kernel_rfl⟩
theorem f_fun4:FieldAt 48 4 3 4 1:=⟨_,_,Try.underlying48,rfl,by kernel_rfl,by kernel_rfl,by kernel_rfl⟩
theorem f_fun5:FieldAt 48 5 40 5 2:=⟨_,_,Try.underlying48,rfl,by kernel_rfl,by kernel_rfl,by kernel_rfl⟩
theorem f_fun6:FieldAt 48 6 41 7 1:=⟨_,_,Try.underlying48,rfl,by kernel_rfl,by kernel_rfl,by kernel_rfl⟩
theorem f_fun7:FieldAt 48 7 43 8 7:=⟨_,_,Try.underlying48,rfl,by kernel_rfl,by kernel_rfl,by kernel_rfl⟩
theorem f_fun8:FieldAt 48 8 46 15 4:=⟨_,_,Try.underlying48,rfl,by kernel_rfl,by kernel_rfl,by kernel_rfl⟩
theorem f_pg0:FieldAt 26 0 22 0 1:=⟨_,_,Try.underlying26,rfl,by kernel_rfl,by kernel_rfl,by kernel_rfl⟩
theorem f_pg1:FieldAt 26 1 23 1 1:=⟨_,_,Try.underlying26,rfl,by kernel_rfl,by kernel_rfl,by kernel_rfl⟩
theorem f_pg2:FieldAt 26 2 24 2 1:=⟨_,_,Try.underlying26,rfl,by kernel_rfl,by kernel_rfl,by kernel_rfl⟩
theorem f_pg3:FieldAt 26 3 3 3 1:=⟨_,_,Try.underlying26,rfl,by kernel_rfl,by kernel_rfl,by kernel_rfl⟩
theorem u_cons:Try.prog.underlying 71=some (.slice 80):=by kernel_rfl
theorem c_con:Try.prog.cellsOf 80=2:=by kernel_rfl
theorem u_dats:Try.prog.underlying 22=some (.slice 73):=by kernel_rfl
theorem c_dat:Try.prog.cellsOf 73=3:=by kernel_rfl
theorem u_funs:Try.prog.underlying 24=some (.slice 48):=by kernel_rfl
theorem c_fun:Try.prog.cellsOf 48=19:=by kernel_rfl
theorem c_pg:Try.prog.cellsOf 26=4:=by kernel_rfl
section
variable {H:Type} {enc:TypeId × Value→H} {w:World} {held:Bool}
section
variable (N:Nat) {fuel:Nat} {cs:List Value} {x:DataW H × List MemPlace}
include N fuel cs x
theorem con_open (h:DataW.trod enc Try.prog w 0 (fun _=>true) held fuel 80 cs=some x) (hN:Rows.uptoBulk x.1≤N) (hM:N≤1048576):∃ a,ConR w NoG N a cs:=by
 have hl:=fld_len f_con0 h
 rw [c_con] at hl
 obtain ⟨c0,c1,rfl⟩:∃ c0 c1,cs=[c0,c1]:=by
  match cs,hl with
  |[c0,c1],_=>exact ⟨c0,c1,rfl⟩
 obtain ⟨n0,y0,h0,k0⟩:=fld f_con0 h
 obtain ⟨n1,y1,h1,k1⟩:=fld f_con1 h
 obtain ⟨z0,e0,_,s0⟩:=DataW.trod_string u_str h0
 cases e0
 obtain ⟨v1,l1,e1,s1⟩:=tys_open N h1 (by omega) hM
 cases e1
 exact ⟨⟨z0,l1⟩,_,rfl,s0,s1⟩
theorem dat_open (h:DataW.trod enc Try.prog w 0 (fun _=>true) held fuel 73 cs=some x) (hN:Rows.uptoBulk x.1≤N) (hM:N≤1048576):∃ a,DatR w NoG N a cs:=by
 have hl:=fld_len f_dat0 h
 rw [c_dat] at hl
 obtain ⟨c0,c1,c2,rfl⟩:∃ c0 c1 c2,cs=[c0,c1,c2]:=by
  match cs,hl with
  |[c0,c1,c2],_=>exact ⟨c0,c1,c2,rfl⟩
 obtain ⟨n0,y0,h0,k0⟩:=fld f_dat0 h
 obtain ⟨n1,y1,h1,k1⟩:=fld f_dat1 h
 obtain ⟨n2,y2,h2,k2⟩:=fld f_dat2 h
 obtain ⟨z0,e0,_,s0⟩:=DataW.trod_string u_str h0
 cases e0
 obtain ⟨v1,l1,e1,s1⟩:=strs_open u_strs u_str c_str h1 (by omega)
 cases e1
 obtain ⟨v2,l2,e2,s2⟩:=slr_open (w:=w) (byt:=40) (R:=ConR w NoG N) u_cons c_con (by decide) (by decide) h2 (by omega) (fun n cs' y hy hb=>con_open N hy (by omega) hM)
 cases e2
 exact ⟨⟨z0,l1,l2⟩,_,_,rfl,s0,s1,s2⟩
theorem fun_open (h:DataW.trod enc Try.prog w 0 (fun _=>true) held fuel 48 cs=some x) (hN:Rows.uptoBulk x.1≤N) (hM:N≤1048576):∃ a,FuR w NoG N a cs:=by
 have hl:=fld_len f_fun0 h
 rw [c_fun] at hl
 obtain ⟨c0,c1,c2,c3,c4,c5,c6,c7,c8,c9,c10,c11,c12,c13,c14,c15,c16,c17,c18,rfl⟩:∃ c0 c1 c2 c3 c4 c5 c6 c7 c8 c9 c10 c11 c12 c13 c14 c15 c16 c17 c18,cs=[c0,c1,c2,c3,c4,c5,c6,c7,c8,c9,c10,c11,c12,c13,c14,c15,c16,c17,c18]:=by
  match cs,hl with
  |[c0,c1,c2,c3,c4,c5,c6,c7,c8,c9,c10,c11,c12,c13,c14,c15,c16,c17,c18],_=>exact ⟨c0,c1,c2,c3,c4,c5,c6,c7,c8,c9,c10,c11,c12,c13,c14,c15,c16,c17,c18,rfl⟩
 obtain ⟨n0,y0,h0,k0⟩:=fld f_fun0 h
 obtain ⟨n1,y1,h1,k1⟩:=fld f_fun1 h
 obtain ⟨n2,y2,h2,k2⟩:=fld f_fun2 h
 obtain ⟨n3,y3,h3,k3⟩:=fld f_fun3 h
 obtain ⟨n4,y4,h4,k4⟩:=fld f_fun4 h
 obtain ⟨n5,y5,h5,k5⟩:=fld f_fun5 h
 obtain ⟨n6,y6,h6,k6⟩:=fld f_fun6 h
 obtain ⟨n7,y7,h7,k7⟩:=fld f_fun7 h
 obtain ⟨n8,y8,h8,k8⟩:=fld f_fun8 h
 obtain ⟨z0,e0,_,s0⟩:=DataW.trod_string u_str h0
 cases e0
 obtain ⟨z1,e1,s1⟩:=int_open u_int h1
 cases e1
 obtain ⟨z2,e2,s2⟩:=int_open u_int h2
 cases e2
 obtain ⟨z3,e3,s3⟩:=int_open u_int h3
 cases e3
 obtain ⟨z4,e4,s4⟩:=int_open u_int h4
 cases e4
 obtain ⟨t5,s5⟩:=eff_open h5 (by omega)
 obtain ⟨v6,l6,e6,s6⟩:=tys_open N h6 (by omega) hM
 cases e6
 obtain ⟨t7,s7⟩:=ty_open N h7 (by omega) hM
 obtain ⟨t8,s8⟩:=bk_open N h8 (by omega) hM
 exact ⟨⟨z0,z1,z2,z3,z4,t5,l6,t7,t8⟩,_,_,_,_,rfl,s0,s1,s2,s3,s4,s5,s6,s7,s8⟩
theorem pg_open (h:DataW.trod enc Try.prog w 0 (fun _=>true) held fuel 26 cs=some x) (hN:Rows.uptoBulk x.1≤N) (hM:N≤1048576):∃ a,PgR w NoG N a cs:=by
 have hl:=fld_len f_pg0 h
 rw [c_pg] at hl
 obtain ⟨c0,c1,c2,c3,rfl⟩:∃ c0 c1 c2 c3,cs=[c0,c1,c2,c3]:=by
  match cs,hl with
  |[c0,c1,c2,c3],_=>exact ⟨c0,c1,c2,c3,rfl⟩
 obtain ⟨n0,y0,h0,k0⟩:=fld f_pg0 h
 obtain ⟨n1,y1,h1,k1⟩:=fld f_pg1 h
 obtain ⟨n2,y2,h2,k2⟩:=fld f_pg2 h
 obtain ⟨n3,y3,h3,k3⟩:=fld f_pg3 h
 obtain ⟨v0,l0,e0,s0⟩:=slr_open (w:=w) (byt:=64) (R:=DatR w NoG N) u_dats c_dat (by decide) (by decide) h0 (by omega) (fun n cs' y hy hb=>dat_open N hy (by omega) hM)
 cases e0
 obtain ⟨v1,l1,e1,s1⟩:=strs_open u_strs u_str c_str h1 (by omega)
 cases e1
 obtain ⟨v2,l2,e2,s2⟩:=slr_open (w:=w) (byt:=296) (R:=FuR w NoG N) u_funs c_fun (by decide) (by decide) h2 (by omega) (fun n cs' y hy hb=>fun_open N hy (by omega) hM)
 cases e2
 obtain ⟨z3,e3,s3⟩:=int_open u_int h3
 cases e3
 exact ⟨⟨l0,l1,l2,z3⟩,_,_,_,rfl,s3,s0,s1,s2⟩
end
end
end
section
open Go Go.RowKit
structure Vl where
 word:Int
 cell:Option Nat
structure Cl where
 code:Int
 parts:List Vl
 block:Option Bk
structure Hp where
 cells:List Cl
 ticks:Int
 outs:List Int
structure Sg where
 code:Int
 payload:Int
abbrev Ans:=Except Sg Vl
def wd (x:Int):Vl:=⟨x,none⟩
def nilV:Vl:=⟨0,none⟩
def atI {α:Type} (l:List α) (i:Int):Option α:=if i<0 then none else l[i.toNat]?
def setI {α:Type} (l:List α) (i:Int) (x:α):Option (List α):=if 0≤i∧i<l.length then some (l.set i.toNat x) else none
abbrev Fr:=List Vl
def Hp.new (h:Hp) (c:Cl):Vl × Hp:=(⟨0,some h.cells.length⟩,{ h with cells:=h.cells++[c] })
def Hp.put (h:Hp) (k:Nat) (c:Cl):Hp:={ h with cells:=h.cells.set k c }
def Hp.of (h:Hp) (v:Vl):Option (Nat × Cl):=v.cell.bind fun k=>(h.cells[k]?).map fun c=>(k,c)
def Hp.spend (h:Hp) (fuel n:Int):Bool × Hp:=if h.ticks+n > fuel then (false,{ h with ticks:=fuel }) else (true,{ h with ticks:=h.ticks+n })
def fuelSg:Sg:=⟨-1,0⟩
structure Ctx where
 fuel:Int
 fn:Int→List Vl→Hp→Option (Ans × Hp)
 cl:Bk→List Vl→Hp→Option (Ans × Hp)
def yesV (b:Bool):Vl:=if b then wd 1 else nilV
def reckonR (op a b:Int):Ans :=
 if op=19 then .ok (wd (wrap64 (a+b))) else if op=20 then .ok (wd (wrap64 (a-b))) else if op=21 then .ok (wd (wrap64 (a*b)))
 else if op=24 then .ok (yesV (decide (a=b))) else if op=25 then .ok (yesV (decide (a<b)))
 else if b=0 then .error ⟨0,0⟩ else if op=22 then .ok (wd (wrap64 (a.tdiv b))) else .ok (wd (a.tmod b))
def arrayR (fuel op:Int) (ags:List Vl) (h:Hp):Option (Ans × Hp) :=
 if op=12 then
  match ags with
  |a :: v :: _ =>
   if a.word<0∨a.word > 4096 then some (.error ⟨2,a.word⟩,h)
   else match h.spend fuel a.word with
    |(false,h)=>some (.error fuelSg,h)
    |(true,h)=>let r:=h.new ⟨0,List.replicate a.word.toNat v,none⟩;some (.ok r.1,r.2)
  |_=>none
 else match ags with
  |a :: l=>(h.of a).bind fun kc =>
   if op=15 then some (.ok (wd kc.2.parts.length),h)
   else match l with
    |i :: m =>
     if i.word<0∨i.word ≥ kc.2.parts.length then some (.error ⟨1,i.word⟩,h)
     else if op=13 then (atI kc.2.parts i.word).map fun v=>(.ok v,h)
     else match m with
      |v :: _=>(setI kc.2.parts i.word v).map fun q=>(.ok nilV,h.put kc.1 { kc.2 with parts:=q })
      |[]=>none
    |[]=>none
  |[]=>none
def callR (K:Ctx) (op code:Int) (ags:List Vl) (h:Hp):Option (Ans × Hp) :=
 match h.spend K.fuel 1 with
 |(false,h)=>some (.error fuelSg,h)
 |(true,h) =>
  if op=6 then K.fn code ags h
  else match ags with
   |a :: b :: _=>(h.of a).bind fun kc=>match kc.2.block with
    |some bk=>(match bk.bind with|x :: _=>(setI kc.2.parts x b).bind fun vars=>K.cl bk vars h|[]=>none)
    |none=>none
   |_=>none
def simpleR (K:Ctx) (op int code:Int) (blocks:List Bk) (ags:List Vl) (fr:Fr) (h:Hp):Option (Ans × Hp) :=
 if op=0∨op=1 then some (.ok (wd int),h)
 else if op=2 then some (.ok nilV,h)
 else if op=3 then (if ags.length=0 then some (.ok (wd code),h) else some (.ok (h.new ⟨code,ags,none⟩).1,(h.new ⟨code,ags,none⟩).2))
 else if op=4∨op=9 then some (.ok (h.new ⟨0,ags,none⟩).1,(h.new ⟨0,ags,none⟩).2)
 else if op=5 then (match ags with|a :: _=>(h.of a).bind fun kc=>(atI kc.2.parts int).map fun v=>(.ok v,h)|[]=>none)
 else if op=10 then (match ags with|a :: _=>(h.of a).bind fun kc=>(atI kc.2.parts 0).map fun v=>(.ok v,h)|[]=>none)
 else if op=11 then (match ags with|a :: b :: _=>(h.of a).bind fun kc=>(setI kc.2.parts 0 b).map fun q=>(.ok nilV,h.put kc.1 { kc.2 with parts:=q })|_=>none)
 else if op=7 then (match blocks with|b :: _=>if fr.length=0 then none else some (.ok (h.new ⟨0,fr,some b⟩).1,(h.new ⟨0,fr,some b⟩).2)|[]=>none)
 else if op=6∨op=8 then callR K op code ags h
 else if op=12∨op=13∨op=14∨op=15 then arrayR K.fuel op ags h
 else if op=16 then (match ags with|a :: _=>some (.error ⟨code,a.word⟩,h)|[]=>none)
 else if op=18 then (match ags with|a :: _=>if h.outs.length<1000000000 then some (.ok nilV,{ h with outs:=h.outs++[a.word] }) else none|[]=>none)
 else if 19≤op∧op≤25 then (match ags with|a :: b :: _=>some (reckonR op a.word b.word,h)|_=>none)
 else none
def bind0 (v:Vl) (b:Bk) (fr:Fr):Option Fr:=match b.bind with|x :: _=>setI fr x v|[]=>none
def bindAll (fr:Fr):List Int→List Vl→Option Fr
 |[],_=>some fr
 |x :: l,v :: m=>(setI fr x v).bind fun fr=>bindAll fr l m
 |_ :: _,[]=>none
def collect (fr:Fr):List Int→Option (List Vl)
 |[]=>some []
 |x :: l=>(atI fr x).bind fun v=>(collect fr l).map (v :: ·)
mutual
def blkR (K:Ctx):Bk→Fr→Hp→Option (Ans × Fr × Hp)
 |.mk _ _ steps v,fr,h=>(stsR K steps fr h).bind fun r=>match r.1 with
  |some g=>some (.error g,r.2)
  |none=>(atI r.2.1 v).map fun x=>(.ok x,r.2)
def stsR (K:Ctx):List St→Fr→Hp→Option (Option Sg × Fr × Hp)
 |[],fr,h=>some (none,fr,h)
 |s :: l,fr,h=>(stR K s fr h).bind fun r=>match r.1 with
  |.error g=>some (some g,r.2)
  |.ok v=>(setI r.2.1 s.out v).bind fun fr=>stsR K l fr r.2.2
def stR (K:Ctx):St→Fr→Hp→Option (Ans × Fr × Hp)
 |.mk op out ty args int code types effs regs modes region keep blocks,fr,h =>
  (collect fr args).bind fun ags =>
  if op=26 then (match ags with|a :: _=>nthR K blocks (1-a.word) (fun _ fr=>some fr) fr h|[]=>none)
  else if op=27 then (match ags with
   |a :: _=>(match a.cell with
    |none=>nthR K blocks a.word (fun _ fr=>some fr) fr h
    |some k=>(match h.cells[k]? with|some c=>nthR K blocks c.code (fun b fr=>bindAll fr b.bind c.parts) fr h|none=>none))
   |[]=>none)
  else if op=17 then (nthR K blocks 0 (fun _ fr=>some fr) fr h).bind fun r=>match r.1 with
   |.ok v=>nthR K blocks 1 (bind0 v) r.2.1 r.2.2
   |.error g=>if g.code<0 then some (.error g,r.2) else armsR K 2 g blocks r.2.1 r.2.2
  else (simpleR K op int code blocks ags fr h).map fun r=>(r.1,fr,r.2)
def nthR (K:Ctx):List Bk→Int→(Bk→Fr→Option Fr)→Fr→Hp→Option (Ans × Fr × Hp)
 |[],_,_,_,_=>none
 |b :: l,i,pre,fr,h=>if i=0 then (pre b fr).bind fun fr=>blkR K b fr h else nthR K l (i-1) pre fr h
def armsR (K:Ctx):Nat→Sg→List Bk→Fr→Hp→Option (Ans × Fr × Hp)
 |_,g,[],fr,h=>some (.error g,fr,h)
 |0,g,b :: l,fr,h=>if b.code=g.code then (bind0 (wd g.payload) b fr).bind fun fr=>blkR K b fr h else armsR K 0 g l fr h
 |n+1,g,_ :: l,fr,h=>armsR K n g l fr h
end
mutual
def sizB (n:Int):Bk→Int
 |.mk _ _ steps _=>sizSs n steps
def sizSs (n:Int):List St→Int
 |[]=>n
 |s :: l=>sizSs (sizS n s) l
def sizS (n:Int):St→Int
 |.mk _ out _ _ _ _ _ _ _ _ _ _ blocks=>sizBs (sizXs (max n (out+1)) blocks) blocks
def sizBs (n:Int):List Bk→Int
 |[]=>n
 |b :: l=>sizBs (sizB n b) l
def sizXs (n:Int):List Bk→Int
 |[]=>n
 |.mk _ bind _ _ :: l=>sizXs (bind.foldl (fun n x=>max n (x+1)) n) l
end
def sizeF (f:Fu):Int:=sizB f.params.length f.body
def fnR (p:Pg) (fuel:Int):Nat→Ctx
 |0=>⟨fuel,fun _ _ _=>none,fun _ _ _=>none⟩
 |g+1=>⟨fuel,fun number ags h=>(atI p.funs number).bind fun f=>if sizeF f<0∨1000000<sizeF f then none else
  (blkR (fnR p fuel g) f.body ((ags++List.replicate ((sizeF f).toNat-ags.length) nilV).take (sizeF f).toNat) h).map fun r=>(r.1,r.2.2),
  fun b fr h=>(blkR (fnR p fuel g) b fr h).map fun r=>(r.1,r.2.2)⟩
structure RunOut where
 answer:Int
 outs:List Int
 fault:Int
 exn:ByteArray
 payload:Int
 ticks:Int
def runP (p:Pg) (args:List Int) (fuel:Int):Option RunOut :=
 if validP p≠0 then some ⟨0,[],3,⟨#[]⟩,0,0⟩
 else (atI p.funs p.main).bind fun f =>
  if args.length≠f.params.length then some ⟨0,[],3,⟨#[]⟩,0,0⟩
  else ((fnR p (min (max fuel 0) 8192) ((min (max fuel 0) 8192).toNat+2)).fn p.main (args.map wd) ⟨[],0,[]⟩).bind fun r=>match r.1 with
   |.ok v=>some ⟨v.word,r.2.outs,0,⟨#[]⟩,0,r.2.ticks⟩
   |.error g=>if g.code<0 then some ⟨0,r.2.outs,2,⟨#[]⟩,0,r.2.ticks⟩ else (atI p.exns g.code).map fun n=>⟨0,r.2.outs,1,n,g.payload,r.2.ticks⟩
end
section
open Go Go.RowKit
def VOk (m:Nat) (v:Vl):Prop:=I64 v.word∧∀ k,v.cell=some k→k<m
def ptrV (B:List Nat) (v:Vl):Option Addr:=v.cell.bind fun k=>(B[k]?).map fun b=>⟨b,0,none⟩
def valV (B:List Nat) (v:Vl):List Value:=[.int .i64 v.word, .pointer (ptrV B v)]
def flatV (B:List Nat) (l:List Vl):List Value:=l.flatMap (valV B)
theorem flatV_len (B:List Nat) (l:List Vl):(flatV B l).length=l.length*2:=by
 induction l with
 |nil=>rfl
 |cons x l ih=>unfold flatV at *;rw [List.flatMap_cons,List.length_append,ih];simp [valV];omega
theorem flatV_cons (B:List Nat) (x:Vl) (l:List Vl):flatV B (x :: l)=valV B x++flatV B l:=by unfold flatV;rw [List.flatMap_cons]
theorem flatV_append (B:List Nat) (l m:List Vl):flatV B (l++m)=flatV B l++flatV B m:=by unfold flatV;rw [List.flatMap_append]
theorem flatV_get (B:List Nat):∀ {l:List Vl} {i:Nat} {v:Vl},l[i]? =some v→(flatV B l)[i*2]? =some (.int .i64 v.word)∧(flatV B l)[i*2+1]? =some (.pointer (ptrV B v))
 |[],i,v,h=>by simp at h
 |x :: l,0,v,h=>by
  simp only [List.getElem?_cons_zero,Option.some.injEq] at h
  subst h
  rw [flatV_cons]
  exact ⟨rfl,rfl⟩
 |x :: l,i+1,v,h=>by
  rw [List.getElem?_cons_succ] at h
  have ih:=flatV_get B h
  rw [flatV_cons]
  have e0:(valV B x).length=2:=rfl
  rw [show (i+1)*2=(valV B x).length+i*2 by rw [e0];omega,show (valV B x).length+i*2+1=(valV B x).length+(i*2+1) by omega,List.getElem?_append_right (by omega),List.getElem?_append_right (by omega)]
  rw [show (valV B x).length+i*2-(valV B x).length=i*2 by omega,show (valV B x).length+(i*2+1)-(valV B x).length=i*2+1 by omega]
  exact ih
theorem flatV_set (B:List Nat):∀ {l:List Vl} {i:Nat} (v:Vl),i<l.length→((flatV B l).set (i*2) (.int .i64 v.word)).set (i*2+1) (.pointer (ptrV B v))=flatV B (l.set i v)
 |[],i,v,h=>by simp at h
 |x :: l,0,v,h=>by rw [flatV_cons,List.set_cons_zero,flatV_cons];rfl
 |x :: l,i+1,v,h=>by
  have ih:=flatV_set B (l:=l) (i:=i) v (by simpa using h)
  rw [List.set_cons_succ,flatV_cons,flatV_cons, ←ih]
  have e0:(valV B x).length=2:=rfl
  rw [show (i+1)*2=i*2+2 by omega,List.set_append_right _ _ (by omega),e0,show i*2+2-2=i*2 by omega,List.set_append_right _ _ (by omega),e0,show i*2+2+1-2=i*2+1 by omega]
theorem ptrV_app {B:List Nat} {m:Nat} {v:Vl} (h:VOk m v) (hm:m≤B.length) (B':List Nat):ptrV (B++B') v=ptrV B v:=by
 unfold ptrV
 cases hc:v.cell with
 |none=>rfl
 |some k =>
  have:=h.2 k hc
  simp only [Option.bind_some]
  rw [List.getElem?_append_left (by omega)]
theorem flatV_app {B:List Nat} {l:List Vl} (h:∀ v,v ∈ l→VOk B.length v) (B':List Nat):flatV (B++B') l=flatV B l:=by
 induction l with
 |nil=>rfl
 |cons x l ih =>
  rw [flatV_cons,flatV_cons,ih (fun v hv=>h v (List.mem_cons_of_mem _ hv))]
  unfold valV
  rw [ptrV_app (h x (List.mem_cons_self)) (Nat.le_refl _)]
theorem VOk.mono {m m':Nat} {v:Vl} (h:VOk m v) (hm:m≤m'):VOk m' v:=⟨h.1,fun k hk=>Nat.lt_of_lt_of_le (h.2 k hk) hm⟩
structure BkAt (w:World) (ρ:Ghost) (N:Nat) (b:Bk) (bb o:Nat):Prop where
 tag:ρ bb=none
 lt:bb<w.heap.size
 out:∃ cs,BkR w ρ N b cs∧∀ j u,cs[j]? =some u→w.cell? ⟨bb,o+j,none⟩=some u
theorem BkAt.step {T:Tag→Prop} {w w':World} {ρ ρ':Ghost} {N:Nat} {b:Bk} {bb o:Nat} (h:BkAt w ρ N b bb o) (hs:Step T w ρ w' ρ'):BkAt w' ρ' N b bb o:=by
 obtain ⟨cs,h1,h2⟩:=h.out
 exact ⟨hs.tag h.lt h.tag,Nat.lt_of_lt_of_le h.lt hs.size,cs,BkR.step hs _ h1,fun j u hj=>hs.cell (a:=⟨bb,_,none⟩) h.lt h.tag (h2 j u hj)⟩
def BpR (w:World) (ρ:Ghost) (N:Nat):Option Bk→Option Addr→Prop
 |none,a=>a=none
 |some b,a=>∃ bb o,a=some ⟨bb,o,none⟩∧BkAt w ρ N b bb o
theorem BpR.step {T:Tag→Prop} {w w':World} {ρ ρ':Ghost} {N:Nat} (hs:Step T w ρ w' ρ'):∀ {b:Option Bk} {a:Option Addr},BpR w ρ N b a→BpR w' ρ' N b a
 |none,_,h=>h
 |some b,_,⟨bb,o,h1,h2⟩=>⟨bb,o,h1,h2.step hs⟩
structure CellR (w:World) (ρ:Ghost) (N:Nat) (B:List Nat) (k:Nat) (c:Cl) (b:Nat):Prop where
 tag:ρ b=some (41,k)
 out:∃ A cp ba,Blk w b 113 [.int .i64 c.code, .slice A c.parts.length cp, .pointer ba]∧OwnSl w ρ (42,k) 64 2 (.slice A c.parts.length cp) c.parts.length (flatV B c.parts)∧BpR w ρ N c.block ba
 code:I64 c.code
 ok:∀ v,v ∈ c.parts→VOk B.length v
 sz:c.parts.length≤1100000
theorem CellR.lt {w:World} {ρ:Ghost} {N:Nat} {B:List Nat} {k:Nat} {c:Cl} {b:Nat} (h:CellR w ρ N B k c b):b<w.heap.size:=by
 obtain ⟨_,_,_,h1,_⟩:=h.out
 exact h1.lt
theorem CellR.step {T:Tag→Prop} {w w':World} {ρ ρ':Ghost} {N:Nat} {B:List Nat} {k:Nat} {c:Cl} {b:Nat} (h:CellR w ρ N B k c b) (hs:Step T w ρ w' ρ') (h1:¬T (41,k)) (h2:¬T (42,k)):CellR w' ρ' N B k c b:=by
 obtain ⟨A,cp,ba,h3,h4,h5⟩:=h.out
 exact ⟨hs.tag h3.lt h.tag,⟨A,cp,ba,hs.blk' h3 h.tag h1,h4.step hs h2,h5.step hs⟩,h.code,h.ok,h.sz⟩
theorem CellR.app {w:World} {ρ:Ghost} {N:Nat} {B:List Nat} {k:Nat} {c:Cl} {b:Nat} (h:CellR w ρ N B k c b) (B':List Nat):CellR w ρ N (B++B') k c b:=by
 obtain ⟨A,cp,ba,h3,h4,h5⟩:=h.out
 refine ⟨h.tag,⟨A,cp,ba,h3,?_,h5⟩,h.code,fun v hv=>(h.ok v hv).mono (by rw [List.length_append];omega),h.sz⟩
 rw [flatV_app h.ok]
 exact h4
def SzR (w:World) (ρ:Ghost) (v:Value) (l:List Int):Prop:=SlR w ρ 1 8 IntR v l
structure RnR (p:Pg) (n N:Nat) (szs:List Int) (fuel:Int) (R:Nat) (w:World) (ρ:Ghost) (h:Hp) (B:List Nat):Prop where
 blk:∃ A1 c1 A2 c2 A3 c3 A4 c4 A5 c5,Blk w R 59 [.slice A1 p.datas.length c1, .slice A2 p.exns.length c2, .slice A3 p.funs.length c3, .int .i64 p.main, .slice A4 szs.length c4, .int .i64 fuel, .int .i64 h.ticks, .slice A5 h.outs.length c5] ∧
  FusR w ρ n (.slice A3 p.funs.length c3) p.funs∧SzR w ρ (.slice A4 szs.length c4) szs∧OwnSl w ρ (40,1) 2 1 (.slice A5 h.outs.length c5) h.outs.length (h.outs.map (.int .i64 ·))
 tag:ρ R=some (40,0)
 len:B.length=h.cells.length
 cells:∀ k c b,h.cells[k]? =some c→B[k]? =some b→CellR w ρ N B k c b
 t0:0≤h.ticks
 t1:h.ticks≤fuel
 fu:fuel≤8192
def RunQ:Tag→Prop:=fun t=>t.1=40∨t.1=41∨t.1=42
def RunT (G:Nat):Tag→Prop:=fun t=>RunQ t∨t=(43,G)
section
variable {p:Pg} {n N:Nat} {szs:List Int} {fuel:Int} {R:Nat}
include p n N szs fuel R
theorem RnR.lt {w:World} {ρ:Ghost} {h:Hp} {B:List Nat} (hr:RnR p n N szs fuel R w ρ h B):R<w.heap.size:=by
 obtain ⟨_,_,_,_,_,_,_,_,_,_,h1,_⟩:=hr.blk
 exact h1.lt
theorem RnR.step {T:Tag→Prop} {w w':World} {ρ ρ':Ghost} {h:Hp} {B:List Nat} (hr:RnR p n N szs fuel R w ρ h B) (hs:Step T w ρ w' ρ') (hT:∀ t,RunQ t→¬T t):RnR p n N szs fuel R w' ρ' h B:=by
 obtain ⟨A1,c1,A2,c2,A3,c3,A4,c4,A5,c5,h1,h2,h3,h4⟩:=hr.blk
 exact ⟨⟨A1,c1,A2,c2,A3,c3,A4,c4,A5,c5,hs.blk' h1 hr.tag (hT _ (.inl rfl)),h2.step hs,h3.step hs (fun _ _ _ h=>h),h4.step hs (hT _ (.inl rfl))⟩,hs.tag h1.lt hr.tag,hr.len,
  fun k c b hk hb=>(hr.cells k c b hk hb).step hs (hT _ (.inr (.inl rfl))) (hT _ (.inr (.inr rfl))),hr.t0,hr.t1,hr.fu⟩
section
variable {w:World} {ρ:Ghost} {h:Hp} {B:List Nat} (hr:RnR p n N szs fuel R w ρ h B)
include w ρ h B hr
theorem RnR.form :
 ∃ A3 c3 A4 c4 A5 c5,w.cell? ⟨R,2,none⟩=some (.slice A3 p.funs.length c3)∧w.cell? ⟨R,4,none⟩=some (.slice A4 szs.length c4)∧w.cell? ⟨R,5,none⟩=some (.int .i64 fuel)∧w.cell? ⟨R,6,none⟩=some (.int .i64 h.ticks)∧w.cell? ⟨R,7,none⟩=some (.slice A5 h.outs.length c5) ∧
  FusR w ρ n (.slice A3 p.funs.length c3) p.funs∧SzR w ρ (.slice A4 szs.length c4) szs∧OwnSl w ρ (40,1) 2 1 (.slice A5 h.outs.length c5) h.outs.length (h.outs.map (.int .i64 ·))∧(∀ i,w.frozen? ⟨R,i,none⟩=false):=by
 obtain ⟨A1,c1,A2,c2,A3,c3,A4,c4,A5,c5,h1,h2,h3,h4⟩:=hr.blk
 exact ⟨A3,c3,A4,c4,A5,c5,h1.cell (i:=2) rfl,h1.cell (i:=4) rfl,h1.cell (i:=5) rfl,h1.cell (i:=6) rfl,h1.cell (i:=7) rfl,h2,h3,h4,h1.free⟩
theorem RnR.setTicks (x:Int) (h0:0≤x) (h1:x≤fuel) :
 RnR p n N szs fuel R (w.setCell ⟨R,6,none⟩ (.int .i64 x)) ρ { h with ticks:=x } B∧Step (· =(40,0)) w ρ (w.setCell ⟨R,6,none⟩ (.int .i64 x)) ρ:=by
 have hs:Step (· =(40,0)) w ρ (w.setCell ⟨R,6,none⟩ (.int .i64 x)) ρ:=Step.setCell (T:=(· =(40,0))) (a:=⟨R,6,none⟩) (t:=(40,0)) (Step.refl _ w ρ) hr.tag rfl _
 obtain ⟨A1,c1,A2,c2,A3,c3,A4,c4,A5,c5,g1,g2,g3,g4⟩:=hr.blk
 refine ⟨⟨⟨A1,c1,A2,c2,A3,c3,A4,c4,A5,c5,?_,g2.step hs,g3.step hs (fun _ _ _ h=>h),g4.step hs (by simp)⟩,hr.tag,hr.len,fun k c b hk hb=>(hr.cells k c b hk hb).step hs (by simp) (by simp),h0,h1,hr.fu⟩,hs⟩
 exact g1.setCell 6 _
end
end
structure FrR (w:World) (ρ:Ghost) (B:List Nat) (G:Nat) (gc:Nat) (fr:Fr):Prop where
 own:OwnSl w ρ (43,G) 64 2 (.slice (some ⟨G,0,none⟩) fr.length gc) fr.length (flatV B fr)
 tag:ρ G=some (43,G)
 lt:G<w.heap.size
 ok:∀ v,v ∈ fr→VOk B.length v
 sz:fr.length≤1100000
theorem FrR.step {T:Tag→Prop} {w w':World} {ρ ρ':Ghost} {B:List Nat} {G gc:Nat} {fr:Fr} (h:FrR w ρ B G gc fr) (hs:Step T w ρ w' ρ') (hT:¬T (43,G)):FrR w' ρ' B G gc fr :=
 ⟨h.own.step hs hT,hs.tag h.lt h.tag,Nat.lt_of_lt_of_le h.lt hs.size,h.ok,h.sz⟩
theorem FrR.app {w:World} {ρ:Ghost} {B:List Nat} {G gc:Nat} {fr:Fr} (h:FrR w ρ B G gc fr) (B':List Nat):FrR w ρ (B++B') G gc fr :=
 ⟨by rw [flatV_app h.ok];exact h.own,h.tag,h.lt,fun v hv=>(h.ok v hv).mono (by rw [List.length_append];omega),h.sz⟩
def SgR (w:World) (ρ:Ghost) (g:Sg) (X:Nat):Prop:=ρ X=none∧Blk w X 69 [.int .i64 g.code, .int .i64 g.payload]∧I64 g.code∧I64 g.payload
theorem SgR.step {T:Tag→Prop} {w w':World} {ρ ρ':Ghost} {g:Sg} {X:Nat} (h:SgR w ρ g X) (hs:Step T w ρ w' ρ'):SgR w' ρ' g X :=
 ⟨hs.tag h.2.1.lt h.1,hs.blk h.2.1 (fun t ht=>by rw [h.1] at ht;cases ht),h.2.2⟩
def AnsR (w:World) (ρ:Ghost) (B:List Nat):Ans→Value→Option Addr→Prop
 |.ok v,x,s=>x= .agg (valV B v).toArray∧s=none∧VOk B.length v
 |.error g,x,s=>∃ X,x= .agg #[.int .i64 0, .pointer none]∧s=some ⟨X,0,none⟩∧SgR w ρ g X
section
variable {T:Tag→Prop} {w w':World} {ρ ρ':Ghost}
include T w w' ρ ρ'
theorem AnsR.step {B:List Nat} (hs:Step T w ρ w' ρ'):∀ {a:Ans} {x:Value} {s:Option Addr},AnsR w ρ B a x s→AnsR w' ρ' B a x s
 |.ok _,_,_,h=>h
 |.error _,_,_,⟨X,h1,h2,h3⟩=>⟨X,h1,h2,h3.step hs⟩
section
variable {tg:Tag} {e:TypeId} {sz n c X:Nat} {xs:List Value} (hO:OwnSl w' ρ' tg e sz (.slice (Option.some ⟨X,0,none⟩) n c) n xs) (hs:Step T w ρ w' ρ')
include tg e sz n c X xs hO hs
theorem OwnSl.adopt (hn:∀ b t,ρ b=Option.some t→¬T t) (hfr:Fresh w ρ) (hX:w.heap.size≤X) (t':Tag) :
 OwnSl w' (ρ.put X t') t' e sz (.slice (Option.some ⟨X,0,none⟩) n c) n xs∧Step (fun _=>False) w ρ w' (ρ.put X t'):=by
 rcases hO.2 with ⟨h0,_⟩|⟨g,cap,L,h0,hr,hb,h1,h2,h3,h4⟩
 ·cases h0
 ·cases h0
  refine ⟨⟨hO.1, .inr ⟨_,_,L,rfl,Ghost.put_same _ _ _,hb,h1,h2,h3,h4⟩⟩,⟨hs.os,hs.tape,hs.output,hs.size,fun k hk=>Ghost.put_ne _ _ (by omega),fun k hk _=>hs.block k hk (hn k),fun f k hk=>?_⟩⟩
  have h5:=hb.lt
  rw [Ghost.put_ne _ _ (by omega)]
  exact f k (Nat.le_trans hs.size hk)
theorem OwnSl.newer (hn:∀ b,ρ b≠Option.some tg):w.heap.size≤X:=by
 rcases hO.2 with ⟨h0,_⟩|⟨g,cap,L,h0,hr,hb,h1,h2,h3,h4⟩
 ·cases h0
 ·cases h0
  refine Nat.le_of_not_lt (fun hlt=>hn X ?_)
  rw [←hs.ghost X hlt]
  exact hr
end
end
def OkG (ρ:Ghost):Prop:=∀ b t,ρ b=some t→t.1≤43∧(t.1=43→t.2=b)
section
variable {ρ:Ghost} (h:OkG ρ)
include ρ h
theorem OkG.put (b:Nat) {t:Tag} (ht:t.1≤43) (h2:t.1=43→t.2=b):OkG (ρ.put b t):=fun k u hk=>by
 unfold Ghost.put at hk
 split at hk
 ·rename_i he
  subst he
  cases hk
  exact ⟨ht,h2⟩
 ·exact h k u hk
theorem OkG.frame (b:Nat):OkG (ρ.put b (43,b)):=h.put b (Nat.le_refl 43) (fun _=>rfl)
theorem OkG.cell (b k:Nat):OkG (ρ.put b (41,k)):=h.put b (show 41≤43 by omega) (fun h=>by have h:(41:Nat)=43:=h;omega)
theorem OkG.row (b k:Nat):OkG (ρ.put b (42,k)):=h.put b (show 42≤43 by omega) (fun h=>by have h:(42:Nat)=43:=h;omega)
theorem OkG.no {t:Tag} (ht:43<t.1):∀ b,ρ b≠some t:=fun b hb=>by have:=(h b t hb).1;omega
end
theorem Step.dropFrame {w w1 w2:World} {ρ ρ1 ρ2:Ghost} {G:Nat} (h:Step RunQ w ρ w1 ρ1) (k:Step (RunT G) w1 ρ1 w2 ρ2) (hG:OkG ρ) (hX:w.heap.size≤G):Step RunQ w ρ w2 ρ2 where
 os:=k.os.trans h.os
 tape:=k.tape.trans h.tape
 output:=k.output.trans h.output
 size:=Nat.le_trans h.size k.size
 ghost:=fun i hi=>(k.ghost i (Nat.lt_of_lt_of_le hi h.size)).trans (h.ghost i hi)
 block:=fun i hi hn=>by
  refine (k.block i (Nat.lt_of_lt_of_le hi h.size) (fun t ht hT=>?_)).trans (h.block i hi hn)
  rw [h.ghost i hi] at ht
  rcases hT with hT|rfl
  ·exact hn t ht hT
  ·have:=(hG i _ ht).2 rfl
   have h2:G=i:=this
   omega
 fresh:=fun f=>k.fresh (h.fresh f)
end
section
open Go Go.RowKit
mutual
def wkB:Bk→List St
 |.mk _ _ steps _=>wkSs steps
def wkSs:List St→List St
 |[]=>[]
 |s :: l=>wkS s++wkSs l
def wkS:St→List St
 |.mk op out ty args int code types effs regs modes region keep blocks=> .mk op out ty args int code types effs regs modes region keep blocks :: wkBs blocks
def wkBs:List Bk→List St
 |[]=>[]
 |b :: l=>wkB b++wkBs l
end
def sizR (n:Int) (s:St):Int:=sizXs (max n (s.out+1)) s.blocks
mutual
theorem sizB_wk:∀ (b:Bk) (n:Int),sizB n b=(wkB b).foldl sizR n
 |.mk _ _ steps _,n=>by rw [sizB,wkB];exact sizSs_wk steps n
theorem sizSs_wk:∀ (l:List St) (n:Int),sizSs n l=(wkSs l).foldl sizR n
 |[],n=>by rw [sizSs,wkSs];rfl
 |s :: l,n=>by rw [sizSs,wkSs,List.foldl_append,sizS_wk s n];exact sizSs_wk l _
theorem sizS_wk:∀ (s:St) (n:Int),sizS n s=(wkS s).foldl sizR n
 |.mk op out ty args int code types effs regs modes region keep blocks,n=>by rw [sizS,wkS,List.foldl_cons];exact sizBs_wk blocks _
theorem sizBs_wk:∀ (l:List Bk) (n:Int),sizBs n l=(wkBs l).foldl sizR n
 |[],n=>by rw [sizBs,wkBs];rfl
 |b :: l,n=>by rw [sizBs,wkBs,List.foldl_append,sizB_wk b n];exact sizBs_wk l _
end
theorem Below.toStep {w w':World} {ρ:Ghost} (h:Below w.heap.size w w'):Step (fun _=>False) w ρ w' ρ :=
 ⟨h.os,h.tape,h.output,h.size,fun _ _=>rfl,fun k hk _=>h.block k hk,fun f k hk=>f k (Nat.le_trans h.size hk)⟩
end
end Go.Proofs.Ytadffbgbndibpaa
