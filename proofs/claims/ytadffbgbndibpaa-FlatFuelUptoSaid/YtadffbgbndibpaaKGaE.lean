/- GaD, GaE: lemmas and walks of the claim. -/
import Derived.Test.YtadffbgbndibpaaKGaB
import Derived.Test.YtadffbgbndibpaaKGaC
set_option linter.unusedVariables false
set_option linter.unusedSimpArgs false
set_option maxHeartbeats 16000000
set_option maxRecDepth 100000
namespace Go.Proofs.Ytadffbgbndibpaa
section
open Go Go.RowKit
section
variable (F:Ty→Prop) (w:World) (ρ:Ghost) (n:Nat) (p:Pg) (ty:Int) (nd:Nat) (C:Nat) (hd:List Value) (mb:Nat) (c:CS) (bg:Bool) (s:St) (S0 S1 S2 S3 S4 S5 S6 S7 S8 S9:Option Addr) (s0 s1 s2 s3 s4 s5 s6 s7 s8 s9:Nat) (ag:List Ty) (G:Option Addr) (cg q:Nat) (hC:CkR F w ρ C hd mb c bg) (hK:CkS w ρ p ty nd hd) (hV:StV w ρ n s (.slice S0 s.ty.args.length s0) (.slice S1 s.ty.eff.regs.length s1) (.slice S2 s.ty.eff.vars.length s2) (.slice S3 s.args.length s3) (.slice S4 s.types.length s4) (.slice S5 s.effs.length s5) (.slice S6 s.regs.length s6) (.slice S7 s.modes.length s7) (.slice S8 s.keep.length s8) (.slice S9 s.blocks.length s9)) (hG:TysR w ρ q (.slice G ag.length cg) ag) (hfr:Fresh w ρ) (hP:HdP p) (hF:formed1 p.datas ty s.ty=true)
include F w ρ n p ty nd C hd mb c bg s S0 S1 S2 S3 S4 S5 S6 S7 S8 S9 s0 s1 s2 s3 s4 s5 s6 s7 s8 s9 ag G cg q hC hK hV hG hfr hP hF
theorem typed_4b (hop:s.op=4) (hkk:¬s.ty.kind=5) :
 Calls Try.prog 40 #[.pointer (some ⟨C,0,none⟩), .agg (stCells s (.slice S0 s.ty.args.length s0) (.slice S1 s.ty.eff.regs.length s1) (.slice S2 s.ty.eff.vars.length s2) (.slice S3 s.args.length s3) (.slice S4 s.types.length s4) (.slice S5 s.effs.length s5) (.slice S6 s.regs.length s6) (.slice S7 s.modes.length s7) (.slice S8 s.keep.length s8) (.slice S9 s.blocks.length s9)).toArray, .slice G ag.length cg] w fun e w'=>e= .returned (.bool (typedC p s ag))∧Below w.heap.size w w':=by
 have hkb:(s.ty.kind == 5)=false:=by simpa using hkk
 have HC:=Hd.mk hC
 have HK:=Hd.mk hK
 have HV:=Hd.mk hV
 have HG:=Hd.mk hG
 have HFR:=Hd.mk hfr
 have HP:=Hd.mk hP
 have HF:=Hd.mk hF
 obtain ⟨r,hr⟩:∃ z,typedC p s ag=z:=⟨_,rfl⟩
 rw [hr]
 have HR:=Hd.mk hr
 generalize hcs:(stCells s (.slice S0 s.ty.args.length s0) (.slice S1 s.ty.eff.regs.length s1) (.slice S2 s.ty.eff.vars.length s2) (.slice S3 s.args.length s3) (.slice S4 s.types.length s4) (.slice S5 s.effs.length s5) (.slice S6 s.regs.length s6) (.slice S7 s.modes.length s7) (.slice S8 s.keep.length s8) (.slice S9 s.blocks.length s9))=cs
 have HCE:=Hd.mk hcs
 have hg0:cs[0]? =some (.int .i64 4):=by rw [←hcs, ←hop];rfl
 have hg2:cs[2]? =some (.int .i64 s.ty.kind):=by rw [←hcs];rfl
 have hg3:cs[3]? =some (.int .i64 s.ty.n):=by rw [←hcs];rfl
 have hg4:cs[4]? =some (.string s.ty.name):=by rw [←hcs];rfl
 have hg5:cs[5]? =some (.slice S0 s.ty.args.length s0):=by rw [←hcs];rfl
 have hg6:cs[6]? =some (.int .i64 s.ty.region):=by rw [←hcs];rfl
 have hg7:cs[7]? =some (.slice S1 s.ty.eff.regs.length s1):=by rw [←hcs];rfl
 have hg8:cs[8]? =some (.slice S2 s.ty.eff.vars.length s2):=by rw [←hcs];rfl
 have TW:=typed_world w ρ cs G ag.length cg
 have TWH:=Hd.mk TW
 clear hC hK hV hG hfr hP hF hr hcs TW
 have hrr:r=false:=by rw [←HR.out,typedC_4 hop];simp [hkk]
 subst hrr
 go_enter Try.func40,Try.ntmps40
 go_wp2
 go_ret
 exact ⟨rfl,TWH.out.step.toBelow⟩
theorem typed_9b (hop:s.op=9) (hkk:¬s.ty.kind=7) :
 Calls Try.prog 40 #[.pointer (some ⟨C,0,none⟩), .agg (stCells s (.slice S0 s.ty.args.length s0) (.slice S1 s.ty.eff.regs.length s1) (.slice S2 s.ty.eff.vars.length s2) (.slice S3 s.args.length s3) (.slice S4 s.types.length s4) (.slice S5 s.effs.length s5) (.slice S6 s.regs.length s6) (.slice S7 s.modes.length s7) (.slice S8 s.keep.length s8) (.slice S9 s.blocks.length s9)).toArray, .slice G ag.length cg] w fun e w'=>e= .returned (.bool (typedC p s ag))∧Below w.heap.size w w':=by
 have hkb:(s.ty.kind == 7)=false:=by simpa using hkk
 have HC:=Hd.mk hC
 have HK:=Hd.mk hK
 have HV:=Hd.mk hV
 have HG:=Hd.mk hG
 have HFR:=Hd.mk hfr
 have HP:=Hd.mk hP
 have HF:=Hd.mk hF
 obtain ⟨r,hr⟩:∃ z,typedC p s ag=z:=⟨_,rfl⟩
 rw [hr]
 have HR:=Hd.mk hr
 generalize hcs:(stCells s (.slice S0 s.ty.args.length s0) (.slice S1 s.ty.eff.regs.length s1) (.slice S2 s.ty.eff.vars.length s2) (.slice S3 s.args.length s3) (.slice S4 s.types.length s4) (.slice S5 s.effs.length s5) (.slice S6 s.regs.length s6) (.slice S7 s.modes.length s7) (.slice S8 s.keep.length s8) (.slice S9 s.blocks.length s9))=cs
 have HCE:=Hd.mk hcs
 have hg0:cs[0]? =some (.int .i64 9):=by rw [←hcs, ←hop];rfl
 have hg2:cs[2]? =some (.int .i64 s.ty.kind):=by rw [←hcs];rfl
 have hg3:cs[3]? =some (.int .i64 s.ty.n):=by rw [←hcs];rfl
 have hg4:cs[4]? =some (.string s.ty.name):=by rw [←hcs];rfl
 have hg5:cs[5]? =some (.slice S0 s.ty.args.length s0):=by rw [←hcs];rfl
 have hg6:cs[6]? =some (.int .i64 s.ty.region):=by rw [←hcs];rfl
 have hg7:cs[7]? =some (.slice S1 s.ty.eff.regs.length s1):=by rw [←hcs];rfl
 have hg8:cs[8]? =some (.slice S2 s.ty.eff.vars.length s2):=by rw [←hcs];rfl
 have TW:=typed_world w ρ cs G ag.length cg
 have TWH:=Hd.mk TW
 clear hC hK hV hG hfr hP hF hr hcs TW
 have hrr:r=false:=by rw [←HR.out,typedC_9 hop];simp [hkk]
 subst hrr
 go_enter Try.func40,Try.ntmps40
 go_wp2
 go_ret
 exact ⟨rfl,TWH.out.step.toBelow⟩
theorem typed_D (hop:s.op=4∧s.ty.kind=5∨s.op=9∧s.ty.kind=7) :
 Calls Try.prog 40 #[.pointer (some ⟨C,0,none⟩), .agg (stCells s (.slice S0 s.ty.args.length s0) (.slice S1 s.ty.eff.regs.length s1) (.slice S2 s.ty.eff.vars.length s2) (.slice S3 s.args.length s3) (.slice S4 s.types.length s4) (.slice S5 s.effs.length s5) (.slice S6 s.regs.length s6) (.slice S7 s.modes.length s7) (.slice S8 s.keep.length s8) (.slice S9 s.blocks.length s9)).toArray, .slice G ag.length cg] w fun e w'=>e= .returned (.bool (typedC p s ag))∧Below w.heap.size w w':=by
 rcases hop with ⟨hop,hkk⟩|⟨hop,hkk⟩
 all_goals (
  have HKK:=Hd.mk hkk
  have HC:=Hd.mk hC
  have HK:=Hd.mk hK
  have HV:=Hd.mk hV
  have HG:=Hd.mk hG
  have HFR:=Hd.mk hfr
  have HP:=Hd.mk hP
  have HF:=Hd.mk hF
  obtain ⟨r,hr⟩:∃ z,typedC p s ag=z:=⟨_,rfl⟩
  rw [hr]
  have HR:=Hd.mk hr
  generalize hcs:(stCells s (.slice S0 s.ty.args.length s0) (.slice S1 s.ty.eff.regs.length s1) (.slice S2 s.ty.eff.vars.length s2) (.slice S3 s.args.length s3) (.slice S4 s.types.length s4) (.slice S5 s.effs.length s5) (.slice S6 s.regs.length s6) (.slice S7 s.modes.length s7) (.slice S8 s.keep.length s8) (.slice S9 s.blocks.length s9))=cs
  have HCE:=Hd.mk hcs
  have hg0:cs[0]? =some (.int .i64 s.op):=by rw [←hcs];rfl
  rw [hop] at hg0
  have hg2:cs[2]? =some (.int .i64 s.ty.kind):=by rw [←hcs];rfl
  rw [hkk] at hg2
  have hg3:cs[3]? =some (.int .i64 s.ty.n):=by rw [←hcs];rfl
  have hg4:cs[4]? =some (.string s.ty.name):=by rw [←hcs];rfl
  have hg5:cs[5]? =some (.slice S0 s.ty.args.length s0):=by rw [←hcs];rfl
  have hg6:cs[6]? =some (.int .i64 s.ty.region):=by rw [←hcs];rfl
  have hg7:cs[7]? =some (.slice S1 s.ty.eff.regs.length s1):=by rw [←hcs];rfl
  have hg8:cs[8]? =some (.slice S2 s.ty.eff.vars.length s2):=by rw [←hcs];rfl
  have TW:=typed_world w ρ cs G ag.length cg
  have TWH:=Hd.mk TW
  clear hC hK hV hG hfr hP hF hr hcs TW
  go_enter Try.func40,Try.ntmps40
  go_wp2_with fail
  generalize hX10:w.heap.size+1+1+1+1+1=X10 at TWH ⊢
  generalize hX9:w.heap.size+1+1+1+1=X9 at TWH ⊢
  generalize hX8:w.heap.size+1+1+1=X8 at TWH ⊢
  generalize hX7:w.heap.size+1+1=X7 at TWH ⊢
  generalize hX5:w.heap.size+1=X5 at TWH ⊢
  have HX:=Hd.mk (And.intro hX5 (And.intro hX7 (And.intro hX8 (And.intro hX9 hX10))))
  clear hX5 hX7 hX8 hX9 hX10
  generalize (((((w.alloc (.cells cs.toArray 94)).alloc (.cells #[.slice G ag.length cg] 41)).alloc (.cells #[.int .i64 0, .int .i64 0, .string ⟨#[]⟩, .slice none 0 0, .int .i64 0, .slice none 0 0, .slice none 0 0] 43)).alloc (.cells #[.int .i64 1, .int .i64 0, .string ⟨#[]⟩, .slice none 0 0, .int .i64 0, .slice none 0 0, .slice none 0 0] 43)).alloc (.cells #[.int .i64 2, .int .i64 0, .string ⟨#[]⟩, .slice none 0 0, .int .i64 0, .slice none 0 0, .slice none 0 0] 43))=W at TWH ⊢)
 ·obtain ⟨mS,_,_,_,hnS,hcsS,_,_,_,_,hTS,_,_⟩:=TyR.shape HV.out.ty
  simp only [List.cons.injEq,and_true,true_and] at hcsS
  obtain ⟨rfl,rfl,rfl⟩:=hcsS
  have hrr:sameL ag s.ty.args=r:=by rw [←HR.out,typedC_4 hop];simp [HKK.out]
  have hcall:=same_any q mS W ρ ag s.ty.args _ _ _ _ (HG.out.step TWH.out.step) (hTS.step TWH.out.step)
  rw [hrr] at hcall
  have HCALL:=Hd.mk hcall
  clear hcall hrr hTS hnS
  refine HCALL.out.mono ?_
  rintro e Wy ⟨rfl,hb⟩
  have HSY:=Hd.mk (TWH.out.step.trans (hb.step ρ))
  clear hb
  go_wp2
  go_ret
  exact ⟨rfl,HSY.out.toBelow⟩
 ·obtain ⟨mS,_,_,_,hnS,hcsS,_,_,_,_,hTS,_,_⟩:=TyR.shape HV.out.ty
  simp only [List.cons.injEq,and_true,true_and] at hcsS
  obtain ⟨rfl,rfl,rfl⟩:=hcsS
  have hrr:sameL ag s.ty.args=r:=by rw [←HR.out,typedC_9 hop];simp [HKK.out]
  have hcall:=same_any q mS W ρ ag s.ty.args _ _ _ _ (HG.out.step TWH.out.step) (hTS.step TWH.out.step)
  rw [hrr] at hcall
  have HCALL:=Hd.mk hcall
  clear hcall hrr hTS hnS
  refine HCALL.out.mono ?_
  rintro e Wy ⟨rfl,hb⟩
  have HSY:=Hd.mk (TWH.out.step.trans (hb.step ρ))
  clear hb
  go_wp2
  go_ret
  exact ⟨rfl,HSY.out.toBelow⟩
theorem typed_F (hop:s.op=8∨s.op=5) :
 Calls Try.prog 40 #[.pointer (some ⟨C,0,none⟩), .agg (stCells s (.slice S0 s.ty.args.length s0) (.slice S1 s.ty.eff.regs.length s1) (.slice S2 s.ty.eff.vars.length s2) (.slice S3 s.args.length s3) (.slice S4 s.types.length s4) (.slice S5 s.effs.length s5) (.slice S6 s.regs.length s6) (.slice S7 s.modes.length s7) (.slice S8 s.keep.length s8) (.slice S9 s.blocks.length s9)).toArray, .slice G ag.length cg] w fun e w'=>e= .returned (.bool (typedC p s ag))∧Below w.heap.size w w':=by
 rcases hop with hop|hop
 all_goals (
  have HC:=Hd.mk hC
  have HK:=Hd.mk hK
  have HV:=Hd.mk hV
  have HG:=Hd.mk hG
  have HFR:=Hd.mk hfr
  have HP:=Hd.mk hP
  have HF:=Hd.mk hF
  obtain ⟨r,hr⟩:∃ z,typedC p s ag=z:=⟨_,rfl⟩
  rw [hr]
  have HR:=Hd.mk hr
  generalize hcs:(stCells s (.slice S0 s.ty.args.length s0) (.slice S1 s.ty.eff.regs.length s1) (.slice S2 s.ty.eff.vars.length s2) (.slice S3 s.args.length s3) (.slice S4 s.types.length s4) (.slice S5 s.effs.length s5) (.slice S6 s.regs.length s6) (.slice S7 s.modes.length s7) (.slice S8 s.keep.length s8) (.slice S9 s.blocks.length s9))=cs
  have HCE:=Hd.mk hcs
  have hg0:cs[0]? =some (.int .i64 s.op):=by rw [←hcs];rfl
  rw [hop] at hg0
  have hg2:cs[2]? =some (.int .i64 s.ty.kind):=by rw [←hcs];rfl
  have hg3:cs[3]? =some (.int .i64 s.ty.n):=by rw [←hcs];rfl
  have hg4:cs[4]? =some (.string s.ty.name):=by rw [←hcs];rfl
  have hg5:cs[5]? =some (.slice S0 s.ty.args.length s0):=by rw [←hcs];rfl
  have hg6:cs[6]? =some (.int .i64 s.ty.region):=by rw [←hcs];rfl
  have hg7:cs[7]? =some (.slice S1 s.ty.eff.regs.length s1):=by rw [←hcs];rfl
  have hg8:cs[8]? =some (.slice S2 s.ty.eff.vars.length s2):=by rw [←hcs];rfl
  have TW:=typed_world w ρ cs G ag.length cg
  have TWH:=Hd.mk TW
  clear hC hK hV hG hfr hP hF hr hcs TW
  go_enter Try.func40,Try.ntmps40
  go_wp2_with fail
  generalize hX10:w.heap.size+1+1+1+1+1=X10 at TWH ⊢
  generalize hX9:w.heap.size+1+1+1+1=X9 at TWH ⊢
  generalize hX8:w.heap.size+1+1+1=X8 at TWH ⊢
  generalize hX7:w.heap.size+1+1=X7 at TWH ⊢
  generalize hX5:w.heap.size+1=X5 at TWH ⊢
  have HX:=Hd.mk (And.intro hX5 (And.intro hX7 (And.intro hX8 (And.intro hX9 hX10))))
  clear hX5 hX7 hX8 hX9 hX10
  generalize (((((w.alloc (.cells cs.toArray 94)).alloc (.cells #[.slice G ag.length cg] 41)).alloc (.cells #[.int .i64 0, .int .i64 0, .string ⟨#[]⟩, .slice none 0 0, .int .i64 0, .slice none 0 0, .slice none 0 0] 43)).alloc (.cells #[.int .i64 1, .int .i64 0, .string ⟨#[]⟩, .slice none 0 0, .int .i64 0, .slice none 0 0, .slice none 0 0] 43)).alloc (.cells #[.int .i64 2, .int .i64 0, .string ⟨#[]⟩, .slice none 0 0, .int .i64 0, .slice none 0 0, .slice none 0 0] 43))=W at TWH ⊢)
 ·by_cases hl:ag.length=2
  ·have hli:((ag.length:Nat):Int)=2:=by omega
   have hli2:(1:Int)<((ag.length:Nat):Int):=by omega
   have hli3:(0:Int)<((ag.length:Nat):Int):=by omega
   have hget0:ag[0]? =some ag[0]:=List.getElem?_eq_getElem (by omega)
   have hget:ag[1]? =some ag[1]:=List.getElem?_eq_getElem (by omega)
   generalize ag[1]=x1 at hget
   generalize ag[0]=x0 at hget0
   have HTC:=Hd.mk (typedC_8 (p:=p) hop hl hget0 hget)
   obtain ⟨bG,oG,mG,E0,g0,E1,g1,E2,g2,hGAG,hmG,hRG,hTG,hcG⟩:=(HG.out.step TWH.out.step).elemC (k:=1) hget
   obtain ⟨bH,oH,mH,D0,h0,D1,h1,D2,h2,hGAH,hmH,hRH,hTH,hcH⟩:=(HG.out.step TWH.out.step).elemC (k:=0) hget0
   subst hGAG
   cases hGAH
   have HSRC:=Hd.mk hRG
   have HTA:=Hd.mk hTH
   have p0:W.cell? ⟨bG,oG+7,none⟩=some (.int .i64 x1.kind):=by have h:=hcG 0 _ rfl;rw [show oG+1*7+0=oG+7 by omega] at h;exact h
   have p1:W.cell? ⟨bG,oG+7+1,none⟩=some (.int .i64 x1.n):=by have h:=hcG 1 _ rfl;rw [show oG+1*7+1=oG+7+1 by omega] at h;exact h
   have p2:W.cell? ⟨bG,oG+7+2,none⟩=some (.string x1.name):=by have h:=hcG 2 _ rfl;rw [show oG+1*7+2=oG+7+2 by omega] at h;exact h
   have p3:W.cell? ⟨bG,oG+7+3,none⟩=some (.slice E0 x1.args.length g0):=by have h:=hcG 3 _ rfl;rw [show oG+1*7+3=oG+7+3 by omega] at h;exact h
   have p4:W.cell? ⟨bG,oG+7+4,none⟩=some (.int .i64 x1.region):=by have h:=hcG 4 _ rfl;rw [show oG+1*7+4=oG+7+4 by omega] at h;exact h
   have p5:W.cell? ⟨bG,oG+7+5,none⟩=some (.slice E1 x1.eff.regs.length g1):=by have h:=hcG 5 _ rfl;rw [show oG+1*7+5=oG+7+5 by omega] at h;exact h
   have p6:W.cell? ⟨bG,oG+7+6,none⟩=some (.slice E2 x1.eff.vars.length g2):=by have h:=hcG 6 _ rfl;rw [show oG+1*7+6=oG+7+6 by omega] at h;exact h
   have r0:W.cell? ⟨bG,oG,none⟩=some (.int .i64 x0.kind):=by have h:=hcH 0 _ rfl;rw [show oG+0*7+0=oG by omega] at h;exact h
   have r3:W.cell? ⟨bG,oG+3,none⟩=some (.slice D0 x0.args.length h0):=by have h:=hcH 3 _ rfl;rw [show oG+0*7+3=oG+3 by omega] at h;exact h
   have lG:bG<W.heap.size:=World.block_lt_of_cell? W ⟨bG,_,none⟩ p0
   have y2:W.cell? ⟨w.heap.size,2,none⟩=some (.int .i64 s.ty.kind):=TWH.out.b4.cell (i:=2) hg2
   have y3:W.cell? ⟨w.heap.size,3,none⟩=some (.int .i64 s.ty.n):=TWH.out.b4.cell (i:=3) hg3
   have y4:W.cell? ⟨w.heap.size,4,none⟩=some (.string s.ty.name):=TWH.out.b4.cell (i:=4) hg4
   have y5:W.cell? ⟨w.heap.size,5,none⟩=some (.slice S0 s.ty.args.length s0):=TWH.out.b4.cell (i:=5) hg5
   have y6:W.cell? ⟨w.heap.size,6,none⟩=some (.int .i64 s.ty.region):=TWH.out.b4.cell (i:=6) hg6
   have y7:W.cell? ⟨w.heap.size,7,none⟩=some (.slice S1 s.ty.eff.regs.length s1):=TWH.out.b4.cell (i:=7) hg7
   have y8:W.cell? ⟨w.heap.size,8,none⟩=some (.slice S2 s.ty.eff.vars.length s2):=TWH.out.b4.cell (i:=8) hg8
   have y5s:W.cell? ⟨X5,0,none⟩=some (.slice (some ⟨bG,oG,none⟩) ag.length cg):=TWH.out.b5.cell (i:=0) rfl
   have l4:=TWH.out.b4.lt
   have l5:=TWH.out.b5.lt
   have HFW:=Hd.mk (TWH.out.step.fresh HFR.out)
   have HRT:=Hd.mk (TyR.step TWH.out.step _ HV.out.ty)
   clear hl hget hget0 hRG hTG hcG hmG hRH hTH hcH hmH
   by_cases hk:x0.kind=6
   ·have HRR:Hd (sameL x0.args [x1,s.ty]=r):=⟨by rw [←HR.out,HTC.out];simp [hk]⟩
    have HSc:=Hd.mk ((Step.refl (fun _=>False) W ρ).drew)
    go_region_held3 (fun wv=>Step (fun _=>False) W ρ wv ρ∧∀ a:Addr,a.block<W.heap.size→wv.cell? a=W.cell? a) (first|exact keepS_of HSc.out|exact keepS_of (HSc.out.alloc _)) (first|(go_at_call 28;have hbx:=Blk.new W.drew [.int .i64 x1.kind, .int .i64 x1.n, .string x1.name, .slice E0 x1.args.length g0, .int .i64 x1.region, .slice E1 x1.eff.regs.length g1, .slice E2 x1.eff.vars.length g2, .int .i64 s.ty.kind, .int .i64 s.ty.n, .string s.ty.name, .slice S0 s.ty.args.length s0, .int .i64 s.ty.region, .slice S1 s.ty.eff.regs.length s1, .slice S2 s.ty.eff.vars.length s2] 43;have hsa:=(Step.refl (fun _=>False) W.drew ρ).alloc (.cells ([.int .i64 x1.kind, .int .i64 x1.n, .string x1.name, .slice E0 x1.args.length g0, .int .i64 x1.region, .slice E1 x1.eff.regs.length g1, .slice E2 x1.eff.vars.length g2, .int .i64 s.ty.kind, .int .i64 s.ty.n, .string s.ty.name, .slice S0 s.ty.args.length s0, .int .i64 s.ty.region, .slice S1 s.ty.eff.regs.length s1, .slice S2 s.ty.eff.vars.length s2]:List Value).toArray 43);have hsx:=HSc.out.trans hsa;have hw:=TysR.box (n:=q+n) (c:=2) (l:=[x1,s.ty]) hbx (HFW.out _ HSc.out.size) (((FlatR.nil 7 _).snoc rfl ((TyR.step hsx _ HSRC.out).mono (by omega))).snoc rfl ((TyR.step hsx _ HRT.out).mono (by omega))) rfl (by simp);refine (same_any _ _ _ ρ x0.args [x1,s.ty] _ _ _ _ (TysR.step HTA.out hsx) hw).mono ?_;rintro e Wn ⟨he,hb⟩;rw [HRR.out] at he;subst he;have HSc:=Hd.mk (hsx.trans (hb.step ρ));clear hb hbx hsa hsx hw))
    go_wp2
    go_ret
    exact ⟨rfl,(TWH.out.step.trans HSc.out).toBelow⟩
   ·have hkb:(x0.kind == 6)=false:=by simpa using hk
    have hrr:r=false:=by rw [←HR.out,HTC.out];simp [hk]
    subst hrr
    go_quiet (skip)
    have HSQ:=Hd.mk (TWH.out.step.drewN nq)
    generalize W.drewN nq=Wq at *
    go_wp2
    go_ret
    exact ⟨rfl,HSQ.out.toBelow⟩
  ·have hli:¬((ag.length:Nat):Int)=2:=by omega
   have hlb:(((ag.length:Nat):Int) == 2)=false:=by simpa using hli
   have y5s:W.cell? ⟨X5,0,none⟩=some (.slice G ag.length cg):=TWH.out.b5.cell (i:=0) rfl
   have l4:=TWH.out.b4.lt
   have l5:=TWH.out.b5.lt
   have hrr:r=false:=by rw [←HR.out];exact typedC_8n hop hl
   clear hl
   subst hrr
   go_quiet (skip)
   have HSQ:=Hd.mk (TWH.out.step.drewN nq)
   generalize W.drewN nq=Wq at *
   go_wp2
   go_ret
   exact ⟨rfl,HSQ.out.toBelow⟩
 ·have hi10:cs[10]? =some (.int .i64 s.int):=by rw [←HCE.out];rfl
  have y10:W.cell? ⟨w.heap.size,10,none⟩=some (.int .i64 s.int):=TWH.out.b4.cell (i:=10) hi10
  by_cases hl:ag.length=1
  ·have hli:((ag.length:Nat):Int)=1:=by omega
   have hli3:(0:Int)<((ag.length:Nat):Int):=by omega
   have hget0:ag[0]? =some ag[0]:=List.getElem?_eq_getElem (by omega)
   generalize ag[0]=x0 at hget0
   have HTC:=Hd.mk (typedC_5 (p:=p) hop hl hget0)
   obtain ⟨bG,oG,mG,D0,h0,D1,h1,D2,h2,hGAG,hmG,hRG,hTG,hcG⟩:=(HG.out.step TWH.out.step).elemC (k:=0) hget0
   subst hGAG
   have HTA:=Hd.mk hTG
   have r0:W.cell? ⟨bG,oG,none⟩=some (.int .i64 x0.kind):=by have h:=hcG 0 _ rfl;rw [show oG+0*7+0=oG by omega] at h;exact h
   have r3:W.cell? ⟨bG,oG+3,none⟩=some (.slice D0 x0.args.length h0):=by have h:=hcG 3 _ rfl;rw [show oG+0*7+3=oG+3 by omega] at h;exact h
   have lG:bG<W.heap.size:=World.block_lt_of_cell? W ⟨bG,_,none⟩ r0
   have y2:W.cell? ⟨w.heap.size,2,none⟩=some (.int .i64 s.ty.kind):=TWH.out.b4.cell (i:=2) hg2
   have y3:W.cell? ⟨w.heap.size,3,none⟩=some (.int .i64 s.ty.n):=TWH.out.b4.cell (i:=3) hg3
   have y4:W.cell? ⟨w.heap.size,4,none⟩=some (.string s.ty.name):=TWH.out.b4.cell (i:=4) hg4
   have y5:W.cell? ⟨w.heap.size,5,none⟩=some (.slice S0 s.ty.args.length s0):=TWH.out.b4.cell (i:=5) hg5
   have y6:W.cell? ⟨w.heap.size,6,none⟩=some (.int .i64 s.ty.region):=TWH.out.b4.cell (i:=6) hg6
   have y7:W.cell? ⟨w.heap.size,7,none⟩=some (.slice S1 s.ty.eff.regs.length s1):=TWH.out.b4.cell (i:=7) hg7
   have y8:W.cell? ⟨w.heap.size,8,none⟩=some (.slice S2 s.ty.eff.vars.length s2):=TWH.out.b4.cell (i:=8) hg8
   have y5s:W.cell? ⟨X5,0,none⟩=some (.slice (some ⟨bG,oG,none⟩) ag.length cg):=TWH.out.b5.cell (i:=0) rfl
   have l4:=TWH.out.b4.lt
   have l5:=TWH.out.b5.lt
   have HFW:=Hd.mk (TWH.out.step.fresh HFR.out)
   have HRT:=Hd.mk (TyR.step TWH.out.step _ HV.out.ty)
   clear hl hget0 hRG hTG hcG hmG hi10
   by_cases hk:x0.kind=5
   ·by_cases h0':s.int<0
    ·have h1':¬0≤s.int:=by omega
     have hrr:r=false:=by rw [←HR.out,HTC.out];simp [h1']
     subst hrr
     go_quiet (skip)
     have HSQ:=Hd.mk (TWH.out.step.drewN nq)
     generalize W.drewN nq=Wq at *
     go_wp2
     go_ret
     exact ⟨rfl,HSQ.out.toBelow⟩
    ·obtain ⟨ii,hii⟩:=Int.eq_ofNat_of_zero_le (show 0≤s.int by omega)
     have h1':0≤s.int:=by omega
     have e1:s.int.toNat=ii:=by omega
     have HII:=Hd.mk hii
     have HTC2:=HTC.out
     rw [e1,hii] at HTC2
     have HTC:=Hd.mk HTC2
     rw [hii] at y10
     have hii0:(0:Int)≤(ii:Int):=by omega
     clear h0' h1' e1 hii HTC2
     by_cases h2:ii<x0.args.length
     ·have h2i:(ii:Int)<((x0.args.length:Nat):Int):=by omega
      obtain ⟨bX,oX,_,hD0,lX⟩:=HTA.out.some_of (List.getElem?_eq_getElem h2)
      subst hD0
      obtain ⟨hT1,hc1⟩:=HTA.out.oneAt (List.getElem?_eq_getElem h2)
      have hgx:=List.getElem?_eq_getElem h2
      generalize x0.args[ii]=x at *
      have HT1:Hd (TysR W ρ mG (.slice (some ⟨bX,oX+ii*7,none⟩) 1 (h0-ii)) [x]):=⟨hT1⟩
      have HRR:Hd (sameL [s.ty] [x]=r):=⟨by rw [←HR.out,HTC.out,hgx];simp [hk]⟩
      have hsl1:∀ W,(Instr.slice 41 (.slice (some ⟨bX,oX,none⟩) x0.args.length h0) (some (.int .i64 ii)) (some (.int .i64 ((ii:Int)+1))) none).run Try.prog W= .ok (.slice (some ⟨bX,oX+ii*7,none⟩) 1 (h0-ii)) W:=fun W=>slice_oneT W bX oX x0.args.length h0 ii hc1 _ rfl
      have ew1:IntKind.i64.wrap ((ii:Int)+1)=(ii:Int)+1:=IntWalk.i64_in _ (by
       obtain ⟨_,_,hv,h3,h4⟩:=SlR.form HTA.out
       cases hv
       unfold maxLen at h4
       omega)
      have hcc1:(ii:Int)+1≤h0:=by omega
      have hcc2:(ii:Int)≤(ii:Int)+1:=by omega
      have HSc:=Hd.mk ((Step.refl (fun _=>False) W ρ).drew)
      clear hgx hT1
      go_region_held3 (fun wv=>Step (fun _=>False) W ρ wv ρ∧∀ a:Addr,a.block<W.heap.size→wv.cell? a=W.cell? a) (first|exact keepS_of HSc.out|exact keepS_of (HSc.out.alloc _)) (first|(go_at_call 28;have hbx:=Blk.new W.drew [.int .i64 s.ty.kind, .int .i64 s.ty.n, .string s.ty.name, .slice S0 s.ty.args.length s0, .int .i64 s.ty.region, .slice S1 s.ty.eff.regs.length s1, .slice S2 s.ty.eff.vars.length s2] 43;have hsa:=(Step.refl (fun _=>False) W.drew ρ).alloc (.cells ([.int .i64 s.ty.kind, .int .i64 s.ty.n, .string s.ty.name, .slice S0 s.ty.args.length s0, .int .i64 s.ty.region, .slice S1 s.ty.eff.regs.length s1, .slice S2 s.ty.eff.vars.length s2]:List Value).toArray 43);have hsx:=HSc.out.trans hsa;have hw:=TysR.box (n:=n) (c:=1) (l:=[s.ty]) hbx (HFW.out _ HSc.out.size) ((FlatR.nil 7 _).snoc rfl (TyR.step hsx _ HRT.out)) rfl (by simp);refine (same_any _ _ _ ρ [s.ty] [x] _ _ _ _ hw (TysR.step HT1.out hsx)).mono ?_;rintro e Wn ⟨he,hb⟩;rw [HRR.out] at he;subst he;have HSc:=Hd.mk (hsx.trans (hb.step ρ));clear hb hbx hsa hsx hw))
      go_wp2
      go_ret
      exact ⟨rfl,(TWH.out.step.trans HSc.out).toBelow⟩
     ·have h2i:¬(ii:Int)<((x0.args.length:Nat):Int):=by omega
      have hrr:r=false:=by rw [←HR.out,HTC.out];rw [List.getElem?_eq_none (by omega)];simp
      subst hrr
      go_quiet (skip)
      have HSQ:=Hd.mk (TWH.out.step.drewN nq)
      generalize W.drewN nq=Wq at *
      go_wp2
      go_ret
      exact ⟨rfl,HSQ.out.toBelow⟩
   ·have hkb:(x0.kind == 5)=false:=by simpa using hk
    have hrr:r=false:=by rw [←HR.out,HTC.out];simp [hk]
    subst hrr
    go_quiet (skip)
    have HSQ:=Hd.mk (TWH.out.step.drewN nq)
    generalize W.drewN nq=Wq at *
    go_wp2
    go_ret
    exact ⟨rfl,HSQ.out.toBelow⟩
  ·have hli:¬((ag.length:Nat):Int)=1:=by omega
   have hlb:(((ag.length:Nat):Int) == 1)=false:=by simpa using hli
   have y5s:W.cell? ⟨X5,0,none⟩=some (.slice G ag.length cg):=TWH.out.b5.cell (i:=0) rfl
   have l4:=TWH.out.b4.lt
   have l5:=TWH.out.b5.lt
   have hrr:r=false:=by rw [←HR.out];exact typedC_5n hop hl
   clear hl
   subst hrr
   go_quiet (skip)
   have HSQ:=Hd.mk (TWH.out.step.drewN nq)
   generalize W.drewN nq=Wq at *
   go_wp2
   go_ret
   exact ⟨rfl,HSQ.out.toBelow⟩
end
end
section
open Go Go.RowKit
section
variable (F:Ty→Prop) (w:World) (ρ:Ghost) (n:Nat) (p:Pg) (ty:Int) (nd:Nat) (C:Nat) (hd:List Value) (mb:Nat) (c:CS) (bg:Bool) (s:St) (S0 S1 S2 S3 S4 S5 S6 S7 S8 S9:Option Addr) (s0 s1 s2 s3 s4 s5 s6 s7 s8 s9:Nat) (ag:List Ty) (G:Option Addr) (cg q:Nat) (hC:CkR F w ρ C hd mb c bg) (hK:CkS w ρ p ty nd hd) (hV:StV w ρ n s (.slice S0 s.ty.args.length s0) (.slice S1 s.ty.eff.regs.length s1) (.slice S2 s.ty.eff.vars.length s2) (.slice S3 s.args.length s3) (.slice S4 s.types.length s4) (.slice S5 s.effs.length s5) (.slice S6 s.regs.length s6) (.slice S7 s.modes.length s7) (.slice S8 s.keep.length s8) (.slice S9 s.blocks.length s9)) (hG:TysR w ρ q (.slice G ag.length cg) ag) (hfr:Fresh w ρ) (hP:HdP p) (hF:formed1 p.datas ty s.ty=true)
include F w ρ n p ty nd C hd mb c bg s S0 S1 S2 S3 S4 S5 S6 S7 S8 S9 s0 s1 s2 s3 s4 s5 s6 s7 s8 s9 ag G cg q hC hK hV hG hfr hP hF
theorem typed_6 (hop:s.op=6) :
 Calls Try.prog 40 #[.pointer (some ⟨C,0,none⟩), .agg (stCells s (.slice S0 s.ty.args.length s0) (.slice S1 s.ty.eff.regs.length s1) (.slice S2 s.ty.eff.vars.length s2) (.slice S3 s.args.length s3) (.slice S4 s.types.length s4) (.slice S5 s.effs.length s5) (.slice S6 s.regs.length s6) (.slice S7 s.modes.length s7) (.slice S8 s.keep.length s8) (.slice S9 s.blocks.length s9)).toArray, .slice G ag.length cg] w fun e w'=>e= .returned (.bool (typedC p s ag))∧Below w.heap.size w w':=by
 have HC:=Hd.mk hC
 have HK:=Hd.mk hK
 have HV:=Hd.mk hV
 have HG:=Hd.mk hG
 have HFR:=Hd.mk hfr
 have HP:=Hd.mk hP
 have HF:=Hd.mk hF
 obtain ⟨r,hr⟩:∃ z,typedC p s ag=z:=⟨_,rfl⟩
 rw [hr]
 have HR:=Hd.mk hr
 generalize hcs:(stCells s (.slice S0 s.ty.args.length s0) (.slice S1 s.ty.eff.regs.length s1) (.slice S2 s.ty.eff.vars.length s2) (.slice S3 s.args.length s3) (.slice S4 s.types.length s4) (.slice S5 s.effs.length s5) (.slice S6 s.regs.length s6) (.slice S7 s.modes.length s7) (.slice S8 s.keep.length s8) (.slice S9 s.blocks.length s9))=cs
 have HCE:=Hd.mk hcs
 have hg0:cs[0]? =some (.int .i64 6):=by rw [←hcs, ←hop];rfl
 have hg2:cs[2]? =some (.int .i64 s.ty.kind):=by rw [←hcs];rfl
 have hg3:cs[3]? =some (.int .i64 s.ty.n):=by rw [←hcs];rfl
 have hg4:cs[4]? =some (.string s.ty.name):=by rw [←hcs];rfl
 have hg5:cs[5]? =some (.slice S0 s.ty.args.length s0):=by rw [←hcs];rfl
 have hg6:cs[6]? =some (.int .i64 s.ty.region):=by rw [←hcs];rfl
 have hg7:cs[7]? =some (.slice S1 s.ty.eff.regs.length s1):=by rw [←hcs];rfl
 have hg8:cs[8]? =some (.slice S2 s.ty.eff.vars.length s2):=by rw [←hcs];rfl
 have TW:=typed_world w ρ cs G ag.length cg
 have TWH:=Hd.mk TW
 have HRNG:Hd ((((((w.alloc (.cells cs.toArray 94)).alloc (.cells #[.slice G ag.length cg] 41)).alloc (.cells #[.int .i64 0, .int .i64 0, .string ⟨#[]⟩, .slice none 0 0, .int .i64 0, .slice none 0 0, .slice none 0 0] 43)).alloc (.cells #[.int .i64 1, .int .i64 0, .string ⟨#[]⟩, .slice none 0 0, .int .i64 0, .slice none 0 0, .slice none 0 0] 43)).alloc (.cells #[.int .i64 2, .int .i64 0, .string ⟨#[]⟩, .slice none 0 0, .int .i64 0, .slice none 0 0, .slice none 0 0] 43)).rangeAt w.heap.size 0 cs):=⟨fun j v hj=>by rw [Nat.zero_add];exact TW.b4.cell hj⟩
 have HIN:Hd ((Try.prog.info? 94).map (·.size)=some cs.length):=⟨by rw [←hcs];kernel_rfl⟩
 clear hC hK hV hG hfr hP hF hr hcs TW
 go_enter Try.func40,Try.ntmps40
 go_wp2_with (refine wpList_load_mid rfl 94 _ rfl w.heap.size 0 rfl cs _ HRNG.out Try.underlying94 rfl HIN.out ?_)
 generalize hX10:w.heap.size+1+1+1+1+1=X10 at TWH ⊢
 generalize hX9:w.heap.size+1+1+1+1=X9 at TWH ⊢
 generalize hX8:w.heap.size+1+1+1=X8 at TWH ⊢
 generalize hX7:w.heap.size+1+1=X7 at TWH ⊢
 generalize hX5:w.heap.size+1=X5 at TWH ⊢
 have HX:=Hd.mk (And.intro hX5 (And.intro hX7 (And.intro hX8 (And.intro hX9 hX10))))
 clear hX5 hX7 hX8 hX9 hX10
 generalize (((((w.alloc (.cells cs.toArray 94)).alloc (.cells #[.slice G ag.length cg] 41)).alloc (.cells #[.int .i64 0, .int .i64 0, .string ⟨#[]⟩, .slice none 0 0, .int .i64 0, .slice none 0 0, .slice none 0 0] 43)).alloc (.cells #[.int .i64 1, .int .i64 0, .string ⟨#[]⟩, .slice none 0 0, .int .i64 0, .slice none 0 0, .slice none 0 0] 43)).alloc (.cells #[.int .i64 2, .int .i64 0, .string ⟨#[]⟩, .slice none 0 0, .int .i64 0, .slice none 0 0, .slice none 0 0] 43))=W at TWH ⊢
 have hcall:=called_any F W ρ n p ty nd C hd mb c bg s S0 S1 S2 S3 S4 S5 S6 S7 S8 S9 s0 s1 s2 s3 s4 s5 s6 s7 s8 s9 ag G cg q (HC.out.step TWH.out.step (fun _ _ h=>h)) (HK.out.step TWH.out.step) (HV.out.step TWH.out.step) (HG.out.step TWH.out.step) (TWH.out.step.fresh HFR.out) HP.out
 rw [HCE.out, ←typedC_6 hop,HR.out] at hcall
 have HCALL:=Hd.mk hcall
 clear hcall
 refine HCALL.out.mono ?_
 rintro e Wy ⟨rfl,hb⟩
 have HSY:=Hd.mk (TWH.out.step.of_below hb)
 clear hb
 go_wp2
 go_ret
 exact ⟨rfl,HSY.out.toBelow⟩
theorem typed_3 (hop:s.op=3) :
 Calls Try.prog 40 #[.pointer (some ⟨C,0,none⟩), .agg (stCells s (.slice S0 s.ty.args.length s0) (.slice S1 s.ty.eff.regs.length s1) (.slice S2 s.ty.eff.vars.length s2) (.slice S3 s.args.length s3) (.slice S4 s.types.length s4) (.slice S5 s.effs.length s5) (.slice S6 s.regs.length s6) (.slice S7 s.modes.length s7) (.slice S8 s.keep.length s8) (.slice S9 s.blocks.length s9)).toArray, .slice G ag.length cg] w fun e w'=>e= .returned (.bool (typedC p s ag))∧Below w.heap.size w w':=by
 have HC:=Hd.mk hC
 have HK:=Hd.mk hK
 have HV:=Hd.mk hV
 have HG:=Hd.mk hG
 have HFR:=Hd.mk hfr
 have HP:=Hd.mk hP
 have HF:=Hd.mk hF
 obtain ⟨r,hr⟩:∃ z,typedC p s ag=z:=⟨_,rfl⟩
 rw [hr]
 have HR:=Hd.mk hr
 generalize hcs:(stCells s (.slice S0 s.ty.args.length s0) (.slice S1 s.ty.eff.regs.length s1) (.slice S2 s.ty.eff.vars.length s2) (.slice S3 s.args.length s3) (.slice S4 s.types.length s4) (.slice S5 s.effs.length s5) (.slice S6 s.regs.length s6) (.slice S7 s.modes.length s7) (.slice S8 s.keep.length s8) (.slice S9 s.blocks.length s9))=cs
 have HCE:=Hd.mk hcs
 have hg0:cs[0]? =some (.int .i64 3):=by rw [←hcs, ←hop];rfl
 have hg2:cs[2]? =some (.int .i64 s.ty.kind):=by rw [←hcs];rfl
 have hg3:cs[3]? =some (.int .i64 s.ty.n):=by rw [←hcs];rfl
 have hg4:cs[4]? =some (.string s.ty.name):=by rw [←hcs];rfl
 have hg5:cs[5]? =some (.slice S0 s.ty.args.length s0):=by rw [←hcs];rfl
 have hg6:cs[6]? =some (.int .i64 s.ty.region):=by rw [←hcs];rfl
 have hg7:cs[7]? =some (.slice S1 s.ty.eff.regs.length s1):=by rw [←hcs];rfl
 have hg8:cs[8]? =some (.slice S2 s.ty.eff.vars.length s2):=by rw [←hcs];rfl
 have hg11:cs[11]? =some (.int .i64 s.code):=by rw [←hcs];rfl
 have TW:=typed_world w ρ cs G ag.length cg
 have TWH:=Hd.mk TW
 clear hC hK hV hG hfr hP hF hr hcs TW
 go_enter Try.func40,Try.ntmps40
 go_wp2_with fail
 generalize hX10:w.heap.size+1+1+1+1+1=X10 at TWH ⊢
 generalize hX9:w.heap.size+1+1+1+1=X9 at TWH ⊢
 generalize hX8:w.heap.size+1+1+1=X8 at TWH ⊢
 generalize hX7:w.heap.size+1+1=X7 at TWH ⊢
 generalize hX5:w.heap.size+1=X5 at TWH ⊢
 have HX:=Hd.mk (And.intro hX5 (And.intro hX7 (And.intro hX8 (And.intro hX9 hX10))))
 clear hX5 hX7 hX8 hX9 hX10
 generalize (((((w.alloc (.cells cs.toArray 94)).alloc (.cells #[.slice G ag.length cg] 41)).alloc (.cells #[.int .i64 0, .int .i64 0, .string ⟨#[]⟩, .slice none 0 0, .int .i64 0, .slice none 0 0, .slice none 0 0] 43)).alloc (.cells #[.int .i64 1, .int .i64 0, .string ⟨#[]⟩, .slice none 0 0, .int .i64 0, .slice none 0 0, .slice none 0 0] 43)).alloc (.cells #[.int .i64 2, .int .i64 0, .string ⟨#[]⟩, .slice none 0 0, .int .i64 0, .slice none 0 0, .slice none 0 0] 43))=W at TWH ⊢
 have HTC:=Hd.mk (typedC_3 (p:=p) (ag:=ag) hop)
 have y2:W.cell? ⟨w.heap.size,2,none⟩=some (.int .i64 s.ty.kind):=TWH.out.b4.cell (i:=2) hg2
 have y3:W.cell? ⟨w.heap.size,3,none⟩=some (.int .i64 s.ty.n):=TWH.out.b4.cell (i:=3) hg3
 have y11:W.cell? ⟨w.heap.size,11,none⟩=some (.int .i64 s.code):=TWH.out.b4.cell (i:=11) hg11
 have y5s:W.cell? ⟨X5,0,none⟩=some (.slice G ag.length cg):=TWH.out.b5.cell (i:=0) rfl
 have l4:=TWH.out.b4.lt
 have l5:=TWH.out.b5.lt
 have lC:C<W.heap.size:=(HC.out.step TWH.out.step (fun _ _ h=>h)).lt
 by_cases hk:s.ty.kind=4
 ·by_cases h0':s.code<0
  ·have h1':¬0≤s.code:=by omega
   have hrr:r=false:=by rw [←HR.out,HTC.out];simp [h1']
   subst hrr
   go_quiet (skip)
   have HSQ:=Hd.mk (TWH.out.step.drewN nq)
   generalize W.drewN nq=Wq at *
   go_wp2
   go_ret
   exact ⟨rfl,HSQ.out.toBelow⟩
  ·obtain ⟨nn,d,hn,hgd,hal,hlt⟩:=formed1_data HF.out hk
   obtain ⟨cc,hcc⟩:=Int.eq_ofNat_of_zero_le (show 0≤s.code by omega)
   obtain ⟨A1,q1,A2,q2,A3,q3,k0,k1,k2,k6,kD,kF⟩:=(HK.out.step TWH.out.step).out
   have yC:W.cell? ⟨C,0,none⟩=some (.slice A1 p.datas.length q1):=(HC.out.step TWH.out.step (fun _ _ h=>h)).cell k0
   obtain ⟨bD,oD,V1,v1,V2,v2,hA1,hVS,hCS,x0,x1,x2⟩:=kD.elem hgd
   subst hA1
   have lD:bD<W.heap.size:=World.block_lt_of_cell? W ⟨bD,_,none⟩ x2
   have hnn:(nn:Int)<((p.datas.length:Nat):Int):=by omega
   have hnn0:(0:Int)≤(nn:Int):=by omega
   have hcc0:(0:Int)≤(cc:Int):=by omega
   have e1:s.code.toNat=cc:=by omega
   have e2:s.ty.n.toNat=nn:=by omega
   have hcon:consOf p s.ty.n=d.cons:=by unfold consOf;rw [e2,hgd];rfl
   have htc:=HTC.out
   rw [hcon,e1,show decide (s.ty.kind=4)=true by simpa using hk,show decide (0≤s.code)=true by simp;omega,Bool.true_and,Bool.true_and] at htc
   have HTC:=Hd.mk htc
   have HKK:=Hd.mk hk
   have HAL:=Hd.mk hal
   have HFD:=Hd.mk (HP.out.cons d (List.mem_of_getElem? hgd))
   rw [hk] at y2
   rw [hn] at y3
   rw [hcc] at y11
   clear htc hcon e1 e2 hk hal hgd hn hcc h0' k0 k1 k2 k6 kD kF x0 x1 hVS hlt
   by_cases h1:cc<d.cons.length
   ·have h1i:(cc:Int)<((d.cons.length:Nat):Int):=by omega
    obtain ⟨bK,oK,V3,v3,hV2,hFS,hnm,u0,u1⟩:=hCS.elem (List.getElem?_eq_getElem h1)
    subst hV2
    have lK:bK<W.heap.size:=World.block_lt_of_cell? W ⟨bK,_,none⟩ u1
    have hgc:=List.getElem?_eq_getElem h1
    generalize d.cons[cc]=cn at *
    have HFF:=Hd.mk (HFD.out cn (List.mem_of_getElem? hgc))
    have HRR:Hd (sameAtL s.ty.args cn.fields ag=r):=⟨by rw [←HR.out,HTC.out,hgc];rfl⟩
    obtain ⟨mS,_,_,_,hnS,hcsS,_,_,_,_,hTS,_,_⟩:=TyR.shape HV.out.ty
    simp only [List.cons.injEq,and_true,true_and] at hcsS
    obtain ⟨rfl,rfl,rfl⟩:=hcsS
    have HTS:=Hd.mk (hTS.step TWH.out.step)
    have HFS:=Hd.mk hFS
    have y5:W.cell? ⟨w.heap.size,5,none⟩=some (.slice S0 s.ty.args.length s0):=TWH.out.b4.cell (i:=5) hg5
    clear hgc hFS hCS hnm u0 hTS hnS
    go_quiet (skip)
    have TWQ:Hd (Step (fun _=>False) W ρ (W.drewN nq) ρ):=⟨(Step.refl _ W ρ).drewN nq⟩
    have y3q:(W.drewN nq).cell? ⟨w.heap.size,3,none⟩=some (.int .i64 (nn:Int)):=y3
    have y11q:(W.drewN nq).cell? ⟨w.heap.size,11,none⟩=some (.int .i64 (cc:Int)):=y11
    have yCq:(W.drewN nq).cell? ⟨C,0,none⟩=some (.slice (some ⟨bD,oD,none⟩) p.datas.length q1):=yC
    have x2q:(W.drewN nq).cell? ⟨bD,oD+nn*3+2,none⟩=some (.slice (some ⟨bK,oK,none⟩) d.cons.length v2):=x2
    have u1q:(W.drewN nq).cell? ⟨bK,oK+cc*2+1,none⟩=some (.slice V3 cn.fields.length v3):=u1
    have y5q:(W.drewN nq).cell? ⟨w.heap.size,5,none⟩=some (.slice S0 s.ty.args.length s0):=y5
    have y5sq:(W.drewN nq).cell? ⟨X5,0,none⟩=some (.slice G ag.length cg):=y5s
    have l4q:w.heap.size<(W.drewN nq).heap.size:=l4
    have l5q:X5<(W.drewN nq).heap.size:=l5
    have lCq:C<(W.drewN nq).heap.size:=lC
    have lDq:bD<(W.drewN nq).heap.size:=lD
    have lKq:bK<(W.drewN nq).heap.size:=lK
    clear y3 y11 yC x2 u1 y5 y5s y2 l4 l5 lC lD lK
    generalize W.drewN nq=Wq at *
    have HSc:=Hd.mk ((Step.refl (fun _=>False) Wq ρ).drew)
    go_wp2_with fail
    go_region_held3 (fun wv=>Step (fun _=>False) Wq ρ wv ρ∧∀ a:Addr,a.block<Wq.heap.size→wv.cell? a=Wq.cell? a) (first|exact keepS_of HSc.out) (first|(go_at_call 52;refine (sameAt_any nd q mS _ ρ p.datas cn.fields s.ty.args ag V3 S0 G v3 s0 cg (HFS.out.step (TWQ.out.trans HSc.out)) (HTS.out.step (TWQ.out.trans HSc.out)) (HG.out.step (TWH.out.step.trans (TWQ.out.trans HSc.out))) (by rw [HAL.out];exact HFF.out)).mono ?_;rintro e Wn ⟨he,hb⟩;rw [HRR.out] at he;subst he;have HSc:=Hd.mk (HSc.out.of_below hb);clear hb))
    go_wp2
    go_ret
    exact ⟨rfl,(TWH.out.step.trans (TWQ.out.trans HSc.out)).toBelow⟩
   ·have h1i:¬(cc:Int)<((d.cons.length:Nat):Int):=by omega
    have h1j:((d.cons.length:Nat):Int)≤(cc:Int):=by omega
    have hrr:r=false:=by rw [←HR.out,HTC.out];rw [List.getElem?_eq_none (by omega)];rfl
    subst hrr
    go_quiet (skip)
    have HSQ:=Hd.mk (TWH.out.step.drewN nq)
    generalize W.drewN nq=Wq at *
    go_wp2
    go_ret
    exact ⟨rfl,HSQ.out.toBelow⟩
 ·have hkb:(s.ty.kind == 4)=false:=by simpa using hk
  have hkn:(s.ty.kind != 4)=true:=by simpa using hk
  have hkd:decide (s.ty.kind=4)=false:=by simpa using hk
  have hke:decide (¬s.ty.kind=4)=true:=by simpa using hk
  have hrr:r=false:=by rw [←HR.out,HTC.out];simp [hk]
  subst hrr
  go_quiet (skip)
  have HSQ:=Hd.mk (TWH.out.step.drewN nq)
  generalize W.drewN nq=Wq at *
  go_wp2
  go_ret
  exact ⟨rfl,HSQ.out.toBelow⟩
theorem typed_any (h0:0≤s.op) (h26:s.op<26) (h7:¬s.op=7) (h17:¬s.op=17) :
 Calls Try.prog 40 #[.pointer (some ⟨C,0,none⟩), .agg (stCells s (.slice S0 s.ty.args.length s0) (.slice S1 s.ty.eff.regs.length s1) (.slice S2 s.ty.eff.vars.length s2) (.slice S3 s.args.length s3) (.slice S4 s.types.length s4) (.slice S5 s.effs.length s5) (.slice S6 s.regs.length s6) (.slice S7 s.modes.length s7) (.slice S8 s.keep.length s8) (.slice S9 s.blocks.length s9)).toArray, .slice G ag.length cg] w fun e w'=>e= .returned (.bool (typedC p s ag))∧Below w.heap.size w w':=by
 by_cases h:s.op=0∨s.op=1∨s.op=2∨s.op=18∨s.op=24∨s.op=25∨s.op=19∨s.op=20∨s.op=21∨s.op=22∨s.op=23
 ·exact typed_B F w ρ n p ty nd C hd mb c bg s S0 S1 S2 S3 S4 S5 S6 S7 S8 S9 s0 s1 s2 s3 s4 s5 s6 s7 s8 s9 ag G cg q hC hK hV hG hfr hP hF h
 by_cases h:s.op=10∨s.op=13∨s.op=15∨s.op=14∨s.op=11∨s.op=12∨s.op=16
 ·exact typed_C F w ρ n p ty nd C hd mb c bg s S0 S1 S2 S3 S4 S5 S6 S7 S8 S9 s0 s1 s2 s3 s4 s5 s6 s7 s8 s9 ag G cg q hC hK hV hG hfr hP hF h
 by_cases h:s.op=4∧s.ty.kind=5∨s.op=9∧s.ty.kind=7
 ·exact typed_D F w ρ n p ty nd C hd mb c bg s S0 S1 S2 S3 S4 S5 S6 S7 S8 S9 s0 s1 s2 s3 s4 s5 s6 s7 s8 s9 ag G cg q hC hK hV hG hfr hP hF h
 by_cases h:s.op=8∨s.op=5
 ·exact typed_F F w ρ n p ty nd C hd mb c bg s S0 S1 S2 S3 S4 S5 S6 S7 S8 S9 s0 s1 s2 s3 s4 s5 s6 s7 s8 s9 ag G cg q hC hK hV hG hfr hP hF h
 by_cases o:s.op=4
 ·exact typed_4b F w ρ n p ty nd C hd mb c bg s S0 S1 S2 S3 S4 S5 S6 S7 S8 S9 s0 s1 s2 s3 s4 s5 s6 s7 s8 s9 ag G cg q hC hK hV hG hfr hP hF o (by omega)
 by_cases o:s.op=9
 ·exact typed_9b F w ρ n p ty nd C hd mb c bg s S0 S1 S2 S3 S4 S5 S6 S7 S8 S9 s0 s1 s2 s3 s4 s5 s6 s7 s8 s9 ag G cg q hC hK hV hG hfr hP hF o (by omega)
 by_cases o:s.op=3
 ·exact typed_3 F w ρ n p ty nd C hd mb c bg s S0 S1 S2 S3 S4 S5 S6 S7 S8 S9 s0 s1 s2 s3 s4 s5 s6 s7 s8 s9 ag G cg q hC hK hV hG hfr hP hF o
 by_cases o:s.op=6
 ·exact typed_6 F w ρ n p ty nd C hd mb c bg s S0 S1 S2 S3 S4 S5 S6 S7 S8 S9 s0 s1 s2 s3 s4 s5 s6 s7 s8 s9 ag G cg q hC hK hV hG hfr hP hF o
 omega
end
end
end Go.Proofs.Ytadffbgbndibpaa
