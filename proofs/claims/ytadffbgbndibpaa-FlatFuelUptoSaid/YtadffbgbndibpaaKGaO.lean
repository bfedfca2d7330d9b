/- GaO: lemmas and walks of the claim. -/
import Derived.Test.YtadffbgbndibpaaKGaN
import Derived.Test.YtadffbgbndibpaaKGaF
set_option linter.unusedVariables false
set_option linter.unusedSimpArgs false
set_option maxHeartbeats 16000000
set_option maxRecDepth 100000
namespace Go.Proofs.Ytadffbgbndibpaa
open Go Go.RowKit
structure NeW (w:World) (ρ:Ghost) (cs:List Value) (X4 X7 X8 X9:Nat) (W:World):Prop where
 sz:W.heap.size=X9
 step:Step (fun _=>False) w ρ W ρ
 b4:Blk W X4 94 cs
 b7:Blk W X7 43 (tyCells intT (.slice none 0 0) (.slice none 0 0) (.slice none 0 0))
 b8:Blk W X8 43 (tyCells boolT (.slice none 0 0) (.slice none 0 0) (.slice none 0 0))
theorem nested_world (w:World) (ρ:Ghost) (cs:List Value) :
 NeW w ρ cs w.heap.size (w.heap.size+1) (w.heap.size+1+1) (w.heap.size+1+1+1) (((w.alloc (.cells cs.toArray 94)).alloc (.cells #[.int .i64 0, .int .i64 0, .string ⟨#[]⟩, .slice none 0 0, .int .i64 0, .slice none 0 0, .slice none 0 0] 43)).alloc (.cells #[.int .i64 1, .int .i64 0, .string ⟨#[]⟩, .slice none 0 0, .int .i64 0, .slice none 0 0, .slice none 0 0] 43)):=by
 have b1:=Blk.new w cs 94
 have s1:=size_alloc w (.cells cs.toArray 94)
 have t1:=(Step.refl (fun _=>False) w ρ).alloc (.cells cs.toArray 94)
 generalize w.alloc (.cells cs.toArray 94)=W1 at *
 have b2:Blk (W1.alloc (.cells #[.int .i64 0, .int .i64 0, .string ⟨#[]⟩, .slice none 0 0, .int .i64 0, .slice none 0 0, .slice none 0 0] 43)) (w.heap.size+1) 43 (tyCells intT (.slice none 0 0) (.slice none 0 0) (.slice none 0 0)):=Blk.newAt s1 (tyCells intT (.slice none 0 0) (.slice none 0 0) (.slice none 0 0)) 43
 have s2:=size_alloc W1 (.cells #[.int .i64 0, .int .i64 0, .string ⟨#[]⟩, .slice none 0 0, .int .i64 0, .slice none 0 0, .slice none 0 0] 43)
 have t2:=t1.alloc (.cells #[.int .i64 0, .int .i64 0, .string ⟨#[]⟩, .slice none 0 0, .int .i64 0, .slice none 0 0, .slice none 0 0] 43)
 have c1:=b1.alloc (.cells #[.int .i64 0, .int .i64 0, .string ⟨#[]⟩, .slice none 0 0, .int .i64 0, .slice none 0 0, .slice none 0 0] 43)
 rw [s1] at s2
 generalize W1.alloc (.cells #[.int .i64 0, .int .i64 0, .string ⟨#[]⟩, .slice none 0 0, .int .i64 0, .slice none 0 0, .slice none 0 0] 43)=W2 at *
 have b3:Blk (W2.alloc (.cells #[.int .i64 1, .int .i64 0, .string ⟨#[]⟩, .slice none 0 0, .int .i64 0, .slice none 0 0, .slice none 0 0] 43)) (w.heap.size+1+1) 43 (tyCells boolT (.slice none 0 0) (.slice none 0 0) (.slice none 0 0)):=Blk.newAt s2 (tyCells boolT (.slice none 0 0) (.slice none 0 0) (.slice none 0 0)) 43
 exact ⟨by rw [size_alloc,s2],t2.alloc _,c1.alloc _,b2.alloc _,b3⟩
theorem LtsR.one {w:World} {ρ:Ghost} {B m n c:Nat} {A:Option Addr} {x:List Ty} (hb:Blk w B 41 [.slice A n c]) (h0:ρ B=none) (h:TysR w ρ m (.slice A n c) x):LtsR w ρ m (.slice (some ⟨B,0,none⟩) 1 1) [x]:=by
 obtain ⟨A',c',hv,_,_⟩:=SlR.form h
 cases hv
 refine ⟨_,_,rfl,Nat.le_refl _,(by unfold maxLen;omega:(1:Nat)≤maxLen),(by simp),fun i y hi=>?_⟩
 cases i with
 |zero =>
  simp only [List.getElem?_cons_zero,Option.some.injEq] at hi
  subst hi
  exact ⟨B,0,_,rfl,h0,hb.lt,rfl,⟨A,c,rfl,h⟩,fun j u hj=>by rw [hb.at];simpa using hj⟩
 |succ i=>simp at hi
theorem kindNil0 (w:World) (ρ:Ghost):TyR w ρ 1 boolT (tyCells boolT (.slice none 0 0) (.slice none 0 0) (.slice none 0 0)):=kindNil 1 (⟨by decide,by decide⟩:I64 1) w ρ 0
theorem LtsR.two {w:World} {ρ:Ghost} {B m:Nat} (hb:Blk w B 41 [.slice none 0 0, .slice none 0 0]) (h0:ρ B=none):LtsR w ρ m (.slice (some ⟨B,0,none⟩) 2 2) [[],[]]:=by
 refine ⟨_,_,rfl,Nat.le_refl _,(by unfold maxLen;omega:(2:Nat)≤maxLen),(by simp),fun i y hi=>?_⟩
 have hy:y=[]∧i<2:=by
  match i,hi with
  |0,hi=>simp at hi;exact ⟨hi,by omega⟩
  |1,hi=>simp at hi;exact ⟨hi,by omega⟩
 obtain ⟨rfl,hi2⟩:=hy
 refine ⟨B,0,[.slice none 0 0],rfl,h0,hb.lt,rfl,⟨none,0,rfl,SlR.nil _ _ _ _ _⟩,fun j u hj=>?_⟩
 cases j with
 |zero =>
  simp only [List.getElem?_cons_zero,Option.some.injEq] at hj
  subst hj
  rw [hb.at]
  match i,hi2 with
  |0,_=>rfl
  |1,_=>rfl
 |succ j=>simp at hj
section
variable (p:Pg) (ty:Int)
include p ty
theorem nested_case (c:CS) (s:St) (a:Ty) (h:s.op=27) (h4:a.kind=4) (hl:s.blocks.length=(consOf p a.n).length):nestedC p ty c s [a]=casesR p ty c s a:=by
 unfold nestedC casesR
 rw [if_neg (by omega),if_neg (by omega),if_pos h]
 show (if a.kind=4∧s.blocks.length=(consOf p a.n).length then _ else Rs.no)=_
 rw [if_pos ⟨h4,hl⟩]
 cases caseBinds a.args (consOf p a.n) <;> rfl
theorem nested_nocase (c:CS) (s:St) (ag:List Ty) (h:s.op=27) (hn:∀ a,ag=[a]→¬(a.kind=4∧s.blocks.length=(consOf p a.n).length)):nestedC p ty c s ag= .no:=by
 unfold nestedC
 rw [if_neg (by omega),if_neg (by omega),if_pos h]
 match ag,hn with
 |[],_=>rfl
 |[a],hn =>
  show (if a.kind=4∧s.blocks.length=(consOf p a.n).length then _ else Rs.no)=_
  rw [if_neg (hn a rfl)]
 |_ :: _ :: _,_=>rfl
section
variable (nd N:Nat) (HBC:Hd (BlockC p ty nd N)) (w:World) (ρ:Ghost) (C:Nat) (hd:List Value) (mb:Nat) (c:CS) (s:St) (S0 S1 S2 S3 S4 S5 S6 S7 S8 S9:Option Addr) (s0 s1 s2 s3 s4 s5 s6 s7 s8 s9:Nat) (ag:List Ty) (G:Option Addr) (cg q:Nat) (hC:CkR (fun t=>formed1 p.datas ty t=true) w ρ C hd mb c false) (hK:CkS w ρ p ty nd hd) (hV:StV w ρ N s (.slice S0 s.ty.args.length s0) (.slice S1 s.ty.eff.regs.length s1) (.slice S2 s.ty.eff.vars.length s2) (.slice S3 s.args.length s3) (.slice S4 s.types.length s4) (.slice S5 s.effs.length s5) (.slice S6 s.regs.length s6) (.slice S7 s.modes.length s7) (.slice S8 s.keep.length s8) (.slice S9 s.blocks.length s9)) (hG:TysR w ρ q (.slice G ag.length cg) ag) (hFG:∀ t,t ∈ ag→formed1 p.datas ty t=true) (hFt:formed1 p.datas ty s.ty=true)
include nd N HBC w ρ C hd mb c s S0 S1 S2 S3 S4 S5 S6 S7 S8 S9 s0 s1 s2 s3 s4 s5 s6 s7 s8 s9 ag G cg q hC hK hV hG hFG hFt
theorem nested_7 (hop:s.op=7) (hfr:Fresh w ρ) (ho:OnlyCk ρ) :
 Calls Try.prog 41 #[.pointer (some ⟨C,0,none⟩), .agg (stCells s (.slice S0 s.ty.args.length s0) (.slice S1 s.ty.eff.regs.length s1) (.slice S2 s.ty.eff.vars.length s2) (.slice S3 s.args.length s3) (.slice S4 s.types.length s4) (.slice S5 s.effs.length s5) (.slice S6 s.regs.length s6) (.slice S7 s.modes.length s7) (.slice S8 s.keep.length s8) (.slice S9 s.blocks.length s9)).toArray, .slice G ag.length cg] w fun e w'=>∃ ρ',e= .returned (.bool (nestedC p ty c s ag).isOk)∧CkP (fun t=>formed1 p.datas ty t=true) w ρ w' ρ' C hd mb c (nestedC p ty c s ag):=by
 have hrn:nestedC p ty c s ag=if ag=[]∧s.blocks.length=1∧s.ty.kind=6 then valuesC p ty c [s.ty.args.take 1] (s.ty.args.getD 1 intT) s.blocks else .no:=by unfold nestedC;rw [if_pos hop]
 have HRN:=Hd.mk hrn
 clear hrn
 obtain ⟨r,hr⟩:∃ z,nestedC p ty c s ag=z:=⟨_,rfl⟩
 rw [hr]
 have HR:=Hd.mk hr
 have HC:=Hd.mk hC
 have HK:=Hd.mk hK
 have HV:=Hd.mk hV
 have HG:=Hd.mk hG
 have HFG:=Hd.mk hFG
 have HFT:=Hd.mk hFt
 have HFR:=Hd.mk hfr
 have HO:=Hd.mk ho
 generalize hcs:(stCells s (.slice S0 s.ty.args.length s0) (.slice S1 s.ty.eff.regs.length s1) (.slice S2 s.ty.eff.vars.length s2) (.slice S3 s.args.length s3) (.slice S4 s.types.length s4) (.slice S5 s.effs.length s5) (.slice S6 s.regs.length s6) (.slice S7 s.modes.length s7) (.slice S8 s.keep.length s8) (.slice S9 s.blocks.length s9))=cs
 have HCE:=Hd.mk hcs
 have hg0:cs[0]? =some (.int .i64 7):=by rw [←hcs];rw [←hop];rfl
 have TWH:=Hd.mk (nested_world w ρ cs)
 have HOP:=Hd.mk hop
 clear hop hC hK hV hG hFG hFt hfr ho hr hcs
 go_enter Try.func41,Try.ntmps41
 go_wp2_with fail
 generalize hX9:w.heap.size+1+1+1=X9 at TWH ⊢
 generalize hX8:w.heap.size+1+1=X8 at TWH ⊢
 generalize hX7:w.heap.size+1=X7 at TWH ⊢
 generalize hX4:w.heap.size=X4 at TWH ⊢
 have HX:=Hd.mk (And.intro hX4 (And.intro hX7 (And.intro hX8 hX9)))
 clear hX4 hX7 hX8 hX9
 generalize (((w.alloc (.cells cs.toArray 94)).alloc (.cells #[.int .i64 0, .int .i64 0, .string ⟨#[]⟩, .slice none 0 0, .int .i64 0, .slice none 0 0, .slice none 0 0] 43)).alloc (.cells #[.int .i64 1, .int .i64 0, .string ⟨#[]⟩, .slice none 0 0, .int .i64 0, .slice none 0 0, .slice none 0 0] 43))=W at *
 have HSW:=Hd.mk TWH.out.step
 have HCW:=Hd.mk (HC.out.step HSW.out (fun _ _ h=>h))
 have HKW:=Hd.mk (HK.out.step HSW.out)
 have HVW:=Hd.mk (HV.out.step HSW.out)
 have HGW:=Hd.mk (HG.out.step HSW.out)
 have HFW:=Hd.mk (HSW.out.fresh HFR.out)
 have n4:ρ X4=none:=HFR.out _ (by have:=HX.out.1;omega)
 have l4:X4<W.heap.size:=TWH.out.b4.lt
 cases ag with
 |cons a0 l0 =>
  have z1:((l0.length:Int)+1 == 0)=false:=by simp;omega
  have z2:¬((l0.length:Int)+1=0):=by omega
  have z3:decide ((l0.length:Int)+1=0)=false:=by simp;omega
  simp only [List.length_cons]
  have e2:W.cell? ⟨X4,2,none⟩=some (.int .i64 s.ty.kind):=TWH.out.b4.cell (i:=2) (by rw [←HCE.out];exact rfl)
  have e5:W.cell? ⟨X4,5,none⟩=some (.slice S0 s.ty.args.length s0):=TWH.out.b4.cell (i:=5) (by rw [←HCE.out];exact rfl)
  have e18:W.cell? ⟨X4,18,none⟩=some (.slice S9 s.blocks.length s9):=TWH.out.b4.cell (i:=18) (by rw [←HCE.out];exact rfl)
  have hrr:r= .no:=by rw [←HR.out];rw [HRN.out,if_neg (by simp)]
  subst hrr
  have HSc:=Hd.mk ((Step.refl (fun _=>False) W ρ).drew)
  refine wp_region_held_drew (S:=(fun wv=>Step (fun _=>False) W ρ wv ρ∧∀ a:Addr,a.block<W.heap.size→wv.cell? a=W.cell? a)) (by kernel_rfl) (keepS_of HSc.out) (fun hHeld=>?_)
  refine tkP 0 ?_
  refine tkP 1 ?_
  refine tkP 2 ?_
  refine tkP 3 ?_
  refine tkU 4 ?_
  refine tkU 5 ?_
  refine tkU 6 ?_
  refine tkU 7 ?_
  refine tkP 8 ?_
  refine tkP 9 ?_
  refine tkU 10 ?_
  refine tkU 11 ?_
  refine tkU 12 ?_
  refine tkU 13 ?_
  refine tkP 14 ?_
  refine tkP 15 ?_
  refine tkU 16 ?_
  refine tkU 17 ?_
  refine tkU 18 ?_
  refine tkU 19 ?_
  refine tkU 20 ?_
  refine tkU 21 ?_
  refine tkU 22 ?_
  refine tkU 23 ?_
  refine tkU 24 ?_
  refine tkU 25 ?_
  refine tkU 26 ?_
  refine tkU 27 ?_
  refine tkU 28 ?_
  refine tkU 29 ?_
  refine tkP 30 ?_
  refine tkP 31 ?_
  refine wpAnyH_done (by kernel_rfl) ?_ _
  go_wp2
  go_ret
  first|exact ⟨ρ,rfl,(((CkP.refl HC.out HO.out).after (HSW.out.trans HSc.out)).no rfl)⟩|exact ⟨rfl,ρ,(((CkP.refl HC.out HO.out).after (HSW.out.trans HSc.out)).no rfl)⟩
 |nil =>
  simp only [List.length_nil]
  by_cases hb1:s.blocks.length=1
  ·have HLB:=Hd.mk hb1
   clear hb1
   by_cases hk6:s.ty.kind=6
   ·have HK6:=Hd.mk hk6
    clear hk6
    have ha2:s.ty.args.length=2:=formed1_many HFT.out HK6.out (fun _ _=>rfl)
    obtain ⟨t1,t2,hargs⟩:∃ t1 t2,s.ty.args=[t1,t2]:=by
     match h:s.ty.args,ha2 with
     |[x,y],_=>exact ⟨x,y,rfl⟩
    have HARGS:=Hd.mk hargs
    have HA2:=Hd.mk ha2
    obtain ⟨mA,va,v1',v2',_,h2,_,_,_,_,hta,_⟩:=HVW.out.ty.shape
    simp only [List.cons.injEq,and_true,true_and] at h2
    obtain ⟨rfl,_⟩:=h2
    have hta1:=hta
    obtain ⟨bA,oA,_,E0,g0,E1,g1,E2,g2,hNA,hmN,hRN,hTN,hcN⟩:=hta.elemC (k:=1) (t:=t2) (by rw [hargs];rfl)
    subst hNA
    obtain ⟨bA',oA',hbA,nbA,lbA⟩:∃ b o,(some ⟨bA,oA,none⟩:Option Addr)=some ⟨b,o,none⟩∧ρ b=none∧b<W.heap.size:=by
     obtain ⟨A',c',hv,_,_,_,h5⟩:=hta1.out
     cases hv
     obtain ⟨b,o,cs0,f1,f2,f3,_⟩:=h5 1 t2 (by rw [hargs];rfl)
     exact ⟨b,o,f1,f2,f3⟩
    cases hbA
    obtain ⟨hsub,hs0⟩:=hta1.oneAt (k:=0) (x:=t1) (by rw [hargs];rfl)
    rw [Nat.zero_mul,Nat.add_zero,Nat.sub_zero] at hsub
    have HTA:Hd (TysR W ρ mA (.slice (some ⟨bA,oA,none⟩) 1 s0) [t1]):=⟨hsub⟩
    have HT2:Hd (TyR W ρ mA t2 (tyCells t2 (.slice E0 t2.args.length g0) (.slice E1 t2.eff.regs.length g1) (.slice E2 t2.eff.vars.length g2))):=⟨hRN⟩
    have HF1:Hd (∀ x t,x ∈ [[t1]]→t ∈ x→formed1 p.datas ty t=true):=⟨fun x t hx ht=>by
     rw [List.mem_singleton] at hx
     subst hx
     rw [List.mem_singleton] at ht
     subst ht
     exact formedL_get (formed1_args HFT.out) (k:=0) (by rw [hargs];rfl)⟩
    have HRV:Hd (valuesC p ty c [[t1]] t2 s.blocks=r):=⟨by
     rw [←HR.out,HRN.out,if_pos ⟨rfl,HLB.out,HK6.out⟩,hargs]
     rfl⟩
    have m0:W.cell? ⟨bA,oA+7,none⟩=some (.int .i64 t2.kind):=hcN 0 _ rfl
    have m1:W.cell? ⟨bA,oA+7+1,none⟩=some (.int .i64 t2.n):=hcN 1 _ rfl
    have m2:W.cell? ⟨bA,oA+7+2,none⟩=some (.string t2.name):=hcN 2 _ rfl
    have m3:W.cell? ⟨bA,oA+7+3,none⟩=some (.slice E0 t2.args.length g0):=hcN 3 _ rfl
    have m4:W.cell? ⟨bA,oA+7+4,none⟩=some (.int .i64 t2.region):=hcN 4 _ rfl
    have m5:W.cell? ⟨bA,oA+7+5,none⟩=some (.slice E1 t2.eff.regs.length g1):=hcN 5 _ rfl
    have m6:W.cell? ⟨bA,oA+7+6,none⟩=some (.slice E2 t2.eff.vars.length g2):=hcN 6 _ rfl
    have hs01:(1:Int)≤s0:=by omega
    have e2:W.cell? ⟨X4,2,none⟩=some (.int .i64 6):=TWH.out.b4.cell (i:=2) (by rw [←HCE.out];exact (rfl:_=some (.int .i64 s.ty.kind:Value)).trans (by rw [HK6.out]))
    have e5:W.cell? ⟨X4,5,none⟩=some (.slice (some ⟨bA,oA,none⟩) 2 s0):=TWH.out.b4.cell (i:=5) (by rw [←HCE.out];exact (rfl:_=some (.slice (some ⟨bA,oA,none⟩) s.ty.args.length s0:Value)).trans (by rw [HA2.out]))
    have e18:W.cell? ⟨X4,18,none⟩=some (.slice S9 1 s9):=TWH.out.b4.cell (i:=18) (by rw [←HCE.out];exact (rfl:_=some (.slice S9 s.blocks.length s9:Value)).trans (by rw [HLB.out]))
    clear hta hta1 hmN hRN hTN hcN hsub hs0 ha2 hargs
    have HSc:=Hd.mk ((Step.refl (fun _=>False) W ρ).drew)
    refine wp_region_held_drew (S:=(fun wv=>∀ a:Addr,a.block<W.heap.size→ρ a.block=none→wv.cell? a=W.cell? a)) (by kernel_rfl) (keepU_of HSc.out) (fun hHeld=>?_)
    refine tkP 0 ?_
    refine tkP 1 ?_
    refine tkP 2 ?_
    refine tkP 3 ?_
    refine tkP 4 ?_
    refine tkP 5 ?_
    refine tkP 6 ?_
    refine tkP 7 ?_
    refine tkP 8 ?_
    refine tkP 9 ?_
    refine tkP 10 ?_
    refine tkP 11 ?_
    refine tkP 12 ?_
    refine tkP 13 ?_
    refine tkP 14 ?_
    refine tkP 15 ?_
    refine tkP 16 ?_
    refine tkP 17 ?_
    refine tkP 18 ?_
    refine tkP 19 ?_
    refine tkP 20 ?_
    refine tkP 21 ?_
    refine tkP 22 ?_
    refine tkP 24 ?_
    refine tkP 25 ?_
    refine tkP 26 ?_
    refine tkP 27 ?_
    refine tkP 28 ?_
    refine tkR 23 (fun K hK=>?_)
    go_simp
    refine tkK hK (by first|exact keepU_of HSc.out|exact keepU_of (HSc.out.alloc _)) (fun hHeld=>?_)
    clear hK K
    refine tkR 29 (fun K hK=>?_)
    go_simp
    go_at_call 54
    have hbx:=Blk.new W.drew [.slice (some ⟨bA,oA,none⟩) 1 s0] 41
    have hsa:=((Step.refl (fun _=>False) W ρ).drew).alloc (.cells ([.slice (some ⟨bA,oA,none⟩) 1 s0]:List Value).toArray 41)
    have h1:=LtsR.one hbx (HFW.out _ (Nat.le_refl _)) (HTA.out.step hsa)
    have hcall:=blocks_any p ty nd N HBC _ ρ C hd mb c s.blocks [[t1]] t2 S9 (some ⟨W.heap.size,0,none⟩) s9 1 mA mA E0 E1 E2 g0 g1 g2 (HCW.out.step hsa (fun _ _ h=>h)) (HKW.out.step hsa) (HVW.out.blocks.step hsa) h1 (by rw [HLB.out];rfl) HF1.out (TyR.step hsa _ HT2.out) (hsa.fresh HFW.out) HO.out
    rw [HLB.out,HRV.out] at hcall
    refine hcall.mono ?_
    rintro e Wn ⟨ρn,rfl,hPn⟩
    have HPN:=Hd.mk hPn
    have HSA:=Hd.mk hsa
    have HSc:=Hd.mk ((hsa.mono (fun _ h=>h.elim):Step CkT _ _ _ _).trans hPn.step)
    clear hbx hsa h1 hcall hPn
    go_wp2_with fail
    refine tkK hK (by first|exact keepU_of HSc.out|exact keepU_of (HSc.out.alloc _)) (fun hHeld=>?_)
    clear hK K
    refine tkP 30 ?_
    refine tkP 31 ?_
    refine wpAnyH_done (by kernel_rfl) ?_ _
    go_wp2
    go_ret
    exact ⟨ρn,rfl,((CkP.refl HC.out HO.out).after (HSW.out.trans HSA.out)).andThen HPN.out⟩
   ·have HRZ:Hd (r= .no):=⟨by rw [←HR.out,HRN.out,if_neg (fun h=>hk6 h.2.2)]⟩
    have hrr:=HRZ.out
    subst hrr
    have z1:(s.ty.kind == 6)=false:=by simp;omega
    have z2:decide (s.ty.kind=6)=false:=by simp;omega
    have e2:W.cell? ⟨X4,2,none⟩=some (.int .i64 s.ty.kind):=TWH.out.b4.cell (i:=2) (by rw [←HCE.out];exact rfl)
    have e5:W.cell? ⟨X4,5,none⟩=some (.slice S0 s.ty.args.length s0):=TWH.out.b4.cell (i:=5) (by rw [←HCE.out];exact rfl)
    have e18:W.cell? ⟨X4,18,none⟩=some (.slice S9 1 s9):=TWH.out.b4.cell (i:=18) (by rw [←HCE.out];exact (rfl:_=some (.slice S9 s.blocks.length s9:Value)).trans (by rw [HLB.out]))
    have HSc:=Hd.mk ((Step.refl (fun _=>False) W ρ).drew)
    refine wp_region_held_drew (S:=(fun wv=>Step (fun _=>False) W ρ wv ρ∧∀ a:Addr,a.block<W.heap.size→wv.cell? a=W.cell? a)) (by kernel_rfl) (keepS_of HSc.out) (fun hHeld=>?_)
    refine tkP 0 ?_
    refine tkP 1 ?_
    refine tkP 2 ?_
    refine tkP 3 ?_
    refine tkP 4 ?_
    refine tkP 5 ?_
    refine tkP 6 ?_
    refine tkP 7 ?_
    refine tkP 8 ?_
    refine tkP 9 ?_
    refine tkP 10 ?_
    refine tkP 11 ?_
    refine tkP 12 ?_
    refine tkP 13 ?_
    refine tkP 14 ?_
    refine tkP 15 ?_
    refine tkU 16 ?_
    refine tkU 17 ?_
    refine tkU 18 ?_
    refine tkU 19 ?_
    refine tkU 20 ?_
    refine tkU 21 ?_
    refine tkU 22 ?_
    refine tkU 23 ?_
    refine tkU 24 ?_
    refine tkU 25 ?_
    refine tkU 26 ?_
    refine tkU 27 ?_
    refine tkU 28 ?_
    refine tkU 29 ?_
    refine tkP 30 ?_
    refine tkP 31 ?_
    refine wpAnyH_done (by kernel_rfl) ?_ _
    go_wp2
    go_ret
    first|exact ⟨ρ,rfl,(((CkP.refl HC.out HO.out).after (HSW.out.trans HSc.out)).no rfl)⟩|exact ⟨rfl,ρ,(((CkP.refl HC.out HO.out).after (HSW.out.trans HSc.out)).no rfl)⟩
  ·have HRZ:Hd (r= .no):=⟨by rw [←HR.out,HRN.out,if_neg (fun h=>hb1 h.2.1)]⟩
   have hrr:=HRZ.out
   subst hrr
   have z1:((s.blocks.length:Int) == 1)=false:=by simp;omega
   have z2:decide ((s.blocks.length:Int)=1)=false:=by simp;omega
   have z3:¬((s.blocks.length:Int)=1):=by omega
   have e2:W.cell? ⟨X4,2,none⟩=some (.int .i64 s.ty.kind):=TWH.out.b4.cell (i:=2) (by rw [←HCE.out];exact rfl)
   have e5:W.cell? ⟨X4,5,none⟩=some (.slice S0 s.ty.args.length s0):=TWH.out.b4.cell (i:=5) (by rw [←HCE.out];exact rfl)
   have e18:W.cell? ⟨X4,18,none⟩=some (.slice S9 s.blocks.length s9):=TWH.out.b4.cell (i:=18) (by rw [←HCE.out];exact rfl)
   have HSc:=Hd.mk ((Step.refl (fun _=>False) W ρ).drew)
   refine wp_region_held_drew (S:=(fun wv=>Step (fun _=>False) W ρ wv ρ∧∀ a:Addr,a.block<W.heap.size→wv.cell? a=W.cell? a)) (by kernel_rfl) (keepS_of HSc.out) (fun hHeld=>?_)
   refine tkP 0 ?_
   refine tkP 1 ?_
   refine tkP 2 ?_
   refine tkP 3 ?_
   refine tkP 4 ?_
   refine tkP 5 ?_
   refine tkP 6 ?_
   refine tkP 7 ?_
   refine tkP 8 ?_
   refine tkP 9 ?_
   refine tkU 10 ?_
   refine tkU 11 ?_
   refine tkU 12 ?_
   refine tkU 13 ?_
   refine tkP 14 ?_
   refine tkP 15 ?_
   refine tkU 16 ?_
   refine tkU 17 ?_
   refine tkU 18 ?_
   refine tkU 19 ?_
   refine tkU 20 ?_
   refine tkU 21 ?_
   refine tkU 22 ?_
   refine tkU 23 ?_
   refine tkU 24 ?_
   refine tkU 25 ?_
   refine tkU 26 ?_
   refine tkU 27 ?_
   refine tkU 28 ?_
   refine tkU 29 ?_
   refine tkP 30 ?_
   refine tkP 31 ?_
   refine wpAnyH_done (by kernel_rfl) ?_ _
   go_wp2
   go_ret
   first|exact ⟨ρ,rfl,(((CkP.refl HC.out HO.out).after (HSW.out.trans HSc.out)).no rfl)⟩|exact ⟨rfl,ρ,(((CkP.refl HC.out HO.out).after (HSW.out.trans HSc.out)).no rfl)⟩
theorem nested_26 (hop:s.op=26) (hfr:Fresh w ρ) (ho:OnlyCk ρ) :
 Calls Try.prog 41 #[.pointer (some ⟨C,0,none⟩), .agg (stCells s (.slice S0 s.ty.args.length s0) (.slice S1 s.ty.eff.regs.length s1) (.slice S2 s.ty.eff.vars.length s2) (.slice S3 s.args.length s3) (.slice S4 s.types.length s4) (.slice S5 s.effs.length s5) (.slice S6 s.regs.length s6) (.slice S7 s.modes.length s7) (.slice S8 s.keep.length s8) (.slice S9 s.blocks.length s9)).toArray, .slice G ag.length cg] w fun e w'=>∃ ρ',e= .returned (.bool (nestedC p ty c s ag).isOk)∧CkP (fun t=>formed1 p.datas ty t=true) w ρ w' ρ' C hd mb c (nestedC p ty c s ag):=by
 have hrn:nestedC p ty c s ag=if sameL ag [boolT]∧s.blocks.length=2 then valuesC p ty c [[],[]] s.ty s.blocks else .no:=by unfold nestedC;rw [if_neg (by omega),if_pos hop]
 have HRN:=Hd.mk hrn
 clear hrn
 obtain ⟨z,hz⟩:∃ z,sameL ag [boolT]=z:=⟨_,rfl⟩
 have HZ:=Hd.mk hz
 clear hz
 obtain ⟨r,hr⟩:∃ z,nestedC p ty c s ag=z:=⟨_,rfl⟩
 rw [hr]
 have HR:=Hd.mk hr
 have HC:=Hd.mk hC
 have HK:=Hd.mk hK
 have HV:=Hd.mk hV
 have HG:=Hd.mk hG
 have HFG:=Hd.mk hFG
 have HFT:=Hd.mk hFt
 have HFR:=Hd.mk hfr
 have HO:=Hd.mk ho
 generalize hcs:(stCells s (.slice S0 s.ty.args.length s0) (.slice S1 s.ty.eff.regs.length s1) (.slice S2 s.ty.eff.vars.length s2) (.slice S3 s.args.length s3) (.slice S4 s.types.length s4) (.slice S5 s.effs.length s5) (.slice S6 s.regs.length s6) (.slice S7 s.modes.length s7) (.slice S8 s.keep.length s8) (.slice S9 s.blocks.length s9))=cs
 have HCE:=Hd.mk hcs
 have hg0:cs[0]? =some (.int .i64 26):=by rw [←hcs];rw [←hop];rfl
 have TWH:=Hd.mk (nested_world w ρ cs)
 clear hC hK hV hG hFG hFt hfr ho hr hcs hop
 go_enter Try.func41,Try.ntmps41
 go_wp2_with fail
 generalize hX9:w.heap.size+1+1+1=X9 at TWH ⊢
 generalize hX8:w.heap.size+1+1=X8 at TWH ⊢
 generalize hX7:w.heap.size+1=X7 at TWH ⊢
 generalize hX4:w.heap.size=X4 at TWH ⊢
 have HX:=Hd.mk (And.intro hX4 (And.intro hX7 (And.intro hX8 hX9)))
 clear hX4 hX7 hX8 hX9
 generalize (((w.alloc (.cells cs.toArray 94)).alloc (.cells #[.int .i64 0, .int .i64 0, .string ⟨#[]⟩, .slice none 0 0, .int .i64 0, .slice none 0 0, .slice none 0 0] 43)).alloc (.cells #[.int .i64 1, .int .i64 0, .string ⟨#[]⟩, .slice none 0 0, .int .i64 0, .slice none 0 0, .slice none 0 0] 43))=W at *
 have HSW:=Hd.mk TWH.out.step
 have HCW:=Hd.mk (HC.out.step HSW.out (fun _ _ h=>h))
 have HKW:=Hd.mk (HK.out.step HSW.out)
 have HVW:=Hd.mk (HV.out.step HSW.out)
 have HGW:=Hd.mk (HG.out.step HSW.out)
 have HFW:=Hd.mk (HSW.out.fresh HFR.out)
 have n4:ρ X4=none:=HFR.out _ (by have:=HX.out.1;omega)
 have l4:X4<W.heap.size:=TWH.out.b4.lt
 have l8:=TWH.out.b8.lt
 have n8:ρ X8=none:=HFR.out _ (by have:=HX.out;omega)
 have f0:W.cell? ⟨X8,0,none⟩=some (.int .i64 1):=TWH.out.b8.cell (i:=0) rfl
 have f1:W.cell? ⟨X8,1,none⟩=some (.int .i64 0):=TWH.out.b8.cell (i:=1) rfl
 have f2:W.cell? ⟨X8,2,none⟩=some (.string ⟨#[]⟩):=TWH.out.b8.cell (i:=2) rfl
 have f3:W.cell? ⟨X8,3,none⟩=some (.slice none 0 0):=TWH.out.b8.cell (i:=3) rfl
 have f4:W.cell? ⟨X8,4,none⟩=some (.int .i64 0):=TWH.out.b8.cell (i:=4) rfl
 have f5:W.cell? ⟨X8,5,none⟩=some (.slice none 0 0):=TWH.out.b8.cell (i:=5) rfl
 have f6:W.cell? ⟨X8,6,none⟩=some (.slice none 0 0):=TWH.out.b8.cell (i:=6) rfl
 cases z with
 |false =>
  have hrr:r= .no:=by rw [←HR.out];rw [HRN.out,HZ.out,if_neg (by simp)]
  subst hrr
  have e2:W.cell? ⟨X4,2,none⟩=some (.int .i64 s.ty.kind):=TWH.out.b4.cell (i:=2) (by rw [←HCE.out];exact rfl)
  have e3:W.cell? ⟨X4,3,none⟩=some (.int .i64 s.ty.n):=TWH.out.b4.cell (i:=3) (by rw [←HCE.out];exact rfl)
  have e4:W.cell? ⟨X4,4,none⟩=some (.string s.ty.name):=TWH.out.b4.cell (i:=4) (by rw [←HCE.out];exact rfl)
  have e5:W.cell? ⟨X4,5,none⟩=some (.slice S0 s.ty.args.length s0):=TWH.out.b4.cell (i:=5) (by rw [←HCE.out];exact rfl)
  have e6:W.cell? ⟨X4,6,none⟩=some (.int .i64 s.ty.region):=TWH.out.b4.cell (i:=6) (by rw [←HCE.out];exact rfl)
  have e7:W.cell? ⟨X4,7,none⟩=some (.slice S1 s.ty.eff.regs.length s1):=TWH.out.b4.cell (i:=7) (by rw [←HCE.out];exact rfl)
  have e8:W.cell? ⟨X4,8,none⟩=some (.slice S2 s.ty.eff.vars.length s2):=TWH.out.b4.cell (i:=8) (by rw [←HCE.out];exact rfl)
  have e18:W.cell? ⟨X4,18,none⟩=some (.slice S9 s.blocks.length s9):=TWH.out.b4.cell (i:=18) (by rw [←HCE.out];exact rfl)
  have HSc:=Hd.mk ((Step.refl (fun _=>False) W ρ).drew)
  refine wp_region_held_drew (S:=(fun wv=>∀ a:Addr,a.block<W.heap.size→ρ a.block=none→wv.cell? a=W.cell? a)) (by kernel_rfl) (keepU_of HSc.out) (fun hHeld=>?_)
  refine tkP 0 ?_
  refine tkP 1 ?_
  refine tkR 2 (fun K hK=>?_)
  go_simp
  refine tkK hK (by first|exact keepU_of HSc.out|exact keepU_of (HSc.out.alloc _)) (fun hHeld=>?_)
  clear hK K
  refine tkR 3 (fun K hK=>?_)
  go_simp
  go_at_call 28
  have hbx:=Blk.new W.drew (tyCells boolT (.slice none 0 0) (.slice none 0 0) (.slice none 0 0)) 43
  have hsa:=((Step.refl (fun _=>False) W ρ).drew).alloc (.cells (tyCells boolT (.slice none 0 0) (.slice none 0 0) (.slice none 0 0):List Value).toArray 43)
  have h1:=TysR.one (t:=boolT) hbx (HFW.out _ (Nat.le_refl _)) (kindNil 1 (⟨by decide,by decide⟩:I64 1) _ ρ 0)
  have hcall:=same_any q 1 _ ρ ag [boolT] G (some ⟨W.heap.size,0,none⟩) cg 1 (HGW.out.step hsa) h1
  rw [HZ.out] at hcall
  refine hcall.mono ?_
  rintro e Wn ⟨rfl,hdn⟩
  have HSc:=Hd.mk (hsa.trans (hdn.step ρ))
  clear hbx hsa h1 hcall hdn
  go_wp2_with fail
  refine tkK hK (by first|exact keepU_of HSc.out|exact keepU_of (HSc.out.alloc _)) (fun hHeld=>?_)
  clear hK K
  refine tkP 4 ?_
  refine tkU 5 ?_
  refine tkU 6 ?_
  refine tkU 7 ?_
  refine tkU 8 ?_
  refine tkP 9 ?_
  refine tkP 10 ?_
  refine tkU 11 ?_
  refine tkU 12 ?_
  refine tkU 13 ?_
  refine tkU 14 ?_
  refine tkU 15 ?_
  refine tkU 16 ?_
  refine tkU 17 ?_
  refine tkP 18 ?_
  refine tkP 19 ?_
  refine wpAnyH_done (by kernel_rfl) ?_ _
  go_wp2
  go_ret
  first|exact ⟨ρ,rfl,(((CkP.refl HC.out HO.out).after (HSW.out.trans HSc.out)).no rfl)⟩|exact ⟨rfl,ρ,(((CkP.refl HC.out HO.out).after (HSW.out.trans HSc.out)).no rfl)⟩
 |true =>
  by_cases hb2:s.blocks.length=2
  ·have HLB:=Hd.mk hb2
   clear hb2
   have HRV:Hd (valuesC p ty c [[],[]] s.ty s.blocks=r):=⟨by rw [←HR.out,HRN.out,if_pos ⟨HZ.out,HLB.out⟩]⟩
   have e2:W.cell? ⟨X4,2,none⟩=some (.int .i64 s.ty.kind):=TWH.out.b4.cell (i:=2) (by rw [←HCE.out];exact rfl)
   have e3:W.cell? ⟨X4,3,none⟩=some (.int .i64 s.ty.n):=TWH.out.b4.cell (i:=3) (by rw [←HCE.out];exact rfl)
   have e4:W.cell? ⟨X4,4,none⟩=some (.string s.ty.name):=TWH.out.b4.cell (i:=4) (by rw [←HCE.out];exact rfl)
   have e5:W.cell? ⟨X4,5,none⟩=some (.slice S0 s.ty.args.length s0):=TWH.out.b4.cell (i:=5) (by rw [←HCE.out];exact rfl)
   have e6:W.cell? ⟨X4,6,none⟩=some (.int .i64 s.ty.region):=TWH.out.b4.cell (i:=6) (by rw [←HCE.out];exact rfl)
   have e7:W.cell? ⟨X4,7,none⟩=some (.slice S1 s.ty.eff.regs.length s1):=TWH.out.b4.cell (i:=7) (by rw [←HCE.out];exact rfl)
   have e8:W.cell? ⟨X4,8,none⟩=some (.slice S2 s.ty.eff.vars.length s2):=TWH.out.b4.cell (i:=8) (by rw [←HCE.out];exact rfl)
   have e18:W.cell? ⟨X4,18,none⟩=some (.slice S9 2 s9):=TWH.out.b4.cell (i:=18) (by rw [←HCE.out];exact (rfl:_=some (.slice S9 s.blocks.length s9:Value)).trans (by rw [HLB.out]))
   have HSc:=Hd.mk ((Step.refl (fun _=>False) W ρ).drew)
   refine wp_region_held_drew (S:=(fun wv=>∀ a:Addr,a.block<W.heap.size→ρ a.block=none→wv.cell? a=W.cell? a)) (by kernel_rfl) (keepU_of HSc.out) (fun hHeld=>?_)
   refine tkP 0 ?_
   refine tkP 1 ?_
   refine tkR 2 (fun K hK=>?_)
   go_simp
   refine tkK hK (by first|exact keepU_of HSc.out|exact keepU_of (HSc.out.alloc _)) (fun hHeld=>?_)
   clear hK K
   refine tkR 3 (fun K hK=>?_)
   go_simp
   go_at_call 28
   have hbx:=Blk.new W.drew (tyCells boolT (.slice none 0 0) (.slice none 0 0) (.slice none 0 0)) 43
   have hsa:=((Step.refl (fun _=>False) W ρ).drew).alloc (.cells (tyCells boolT (.slice none 0 0) (.slice none 0 0) (.slice none 0 0):List Value).toArray 43)
   have h1:=TysR.one (t:=boolT) hbx (HFW.out _ (Nat.le_refl _)) (kindNil 1 (⟨by decide,by decide⟩:I64 1) _ ρ 0)
   have hcall:=same_any q 1 _ ρ ag [boolT] G (some ⟨W.heap.size,0,none⟩) cg 1 (HGW.out.step hsa) h1
   rw [HZ.out] at hcall
   refine hcall.mono ?_
   rintro e Wn ⟨rfl,hdn⟩
   have HSc:=Hd.mk (hsa.trans (hdn.step ρ))
   clear hbx hsa h1 hcall hdn
   go_wp2_with fail
   refine tkK hK (by first|exact keepU_of HSc.out|exact keepU_of (HSc.out.alloc _)) (fun hHeld=>?_)
   clear hK K
   refine tkP 4 ?_
   refine tkP 5 ?_
   refine tkP 6 ?_
   refine tkP 7 ?_
   refine tkP 8 ?_
   refine tkP 9 ?_
   refine tkP 10 ?_
   refine tkP 11 ?_
   refine tkP 12 ?_
   refine tkP 13 ?_
   refine tkP 15 ?_
   refine tkP 16 ?_
   refine tkR 14 (fun K hK=>?_)
   go_simp
   refine tkK hK (by first|exact keepU_of HSc.out|exact keepU_of (HSc.out.alloc _)) (fun hHeld=>?_)
   clear hK K
   refine tkR 17 (fun K hK=>?_)
   go_simp
   go_at_call 54
   rw [show (IntKind.i64.wrap 2).toNat=2 from by decide]
   generalize hM:Array.map _ (Array.range _)=M
   have hM2:M= #[.slice none 0 0, .slice none 0 0]:=by rw [←hM];kernel_rfl
   subst hM2
   have hbx:=Blk.new' Wn #[.slice none 0 0, .slice none 0 0] 41
   have hsa:=HSc.out.alloc (.cells #[.slice none 0 0, .slice none 0 0] 41)
   have h1:=LtsR.two (m:=0) hbx (HSc.out.fresh HFW.out _ (Nat.le_refl _))
   have hcall:=blocks_any p ty nd N HBC _ ρ C hd mb c s.blocks [[],[]] s.ty S9 (some ⟨Wn.heap.size,0,none⟩) s9 2 0 N S0 S1 S2 s0 s1 s2 (HCW.out.step hsa (fun _ _ h=>h)) (HKW.out.step hsa) (HVW.out.blocks.step hsa) h1 (by rw [HLB.out];rfl) (fun x t hx ht=>by simp only [List.mem_cons,List.not_mem_nil,or_false,or_self] at hx;subst hx;cases ht) (TyR.step hsa _ HVW.out.ty) (hsa.fresh HFW.out) HO.out
   rw [HLB.out,HRV.out] at hcall
   refine hcall.mono ?_
   rintro e Wm ⟨ρn,rfl,hPn⟩
   have HPN:=Hd.mk hPn
   have HSA:=Hd.mk hsa
   have HSc:=Hd.mk ((hsa.mono (fun _ h=>h.elim):Step CkT _ _ _ _).trans hPn.step)
   clear hbx hsa h1 hcall hPn hM
   go_wp2_with fail
   refine tkK hK (by first|exact keepU_of HSc.out|exact keepU_of (HSc.out.alloc _)) (fun hHeld=>?_)
   clear hK K
   refine tkP 18 ?_
   refine tkP 19 ?_
   refine wpAnyH_done (by kernel_rfl) ?_ _
   go_wp2
   go_ret
   exact ⟨ρn,rfl,((CkP.refl HC.out HO.out).after (HSW.out.trans HSA.out)).andThen HPN.out⟩
  ·have HRZ:Hd (r= .no):=⟨by rw [←HR.out,HRN.out,if_neg (fun h=>hb2 h.2)]⟩
   have hrr:=HRZ.out
   subst hrr
   have z1:((s.blocks.length:Int) == 2)=false:=by simp;omega
   have z2:decide ((s.blocks.length:Int)=2)=false:=by simp;omega
   have z3:¬((s.blocks.length:Int)=2):=by omega
   have e2:W.cell? ⟨X4,2,none⟩=some (.int .i64 s.ty.kind):=TWH.out.b4.cell (i:=2) (by rw [←HCE.out];exact rfl)
   have e3:W.cell? ⟨X4,3,none⟩=some (.int .i64 s.ty.n):=TWH.out.b4.cell (i:=3) (by rw [←HCE.out];exact rfl)
   have e4:W.cell? ⟨X4,4,none⟩=some (.string s.ty.name):=TWH.out.b4.cell (i:=4) (by rw [←HCE.out];exact rfl)
   have e5:W.cell? ⟨X4,5,none⟩=some (.slice S0 s.ty.args.length s0):=TWH.out.b4.cell (i:=5) (by rw [←HCE.out];exact rfl)
   have e6:W.cell? ⟨X4,6,none⟩=some (.int .i64 s.ty.region):=TWH.out.b4.cell (i:=6) (by rw [←HCE.out];exact rfl)
   have e7:W.cell? ⟨X4,7,none⟩=some (.slice S1 s.ty.eff.regs.length s1):=TWH.out.b4.cell (i:=7) (by rw [←HCE.out];exact rfl)
   have e8:W.cell? ⟨X4,8,none⟩=some (.slice S2 s.ty.eff.vars.length s2):=TWH.out.b4.cell (i:=8) (by rw [←HCE.out];exact rfl)
   have e18:W.cell? ⟨X4,18,none⟩=some (.slice S9 s.blocks.length s9):=TWH.out.b4.cell (i:=18) (by rw [←HCE.out];exact rfl)
   have HSc:=Hd.mk ((Step.refl (fun _=>False) W ρ).drew)
   refine wp_region_held_drew (S:=(fun wv=>∀ a:Addr,a.block<W.heap.size→ρ a.block=none→wv.cell? a=W.cell? a)) (by kernel_rfl) (keepU_of HSc.out) (fun hHeld=>?_)
   refine tkP 0 ?_
   refine tkP 1 ?_
   refine tkR 2 (fun K hK=>?_)
   go_simp
   refine tkK hK (by first|exact keepU_of HSc.out|exact keepU_of (HSc.out.alloc _)) (fun hHeld=>?_)
   clear hK K
   refine tkR 3 (fun K hK=>?_)
   go_simp
   go_at_call 28
   have hbx:=Blk.new W.drew (tyCells boolT (.slice none 0 0) (.slice none 0 0) (.slice none 0 0)) 43
   have hsa:=((Step.refl (fun _=>False) W ρ).drew).alloc (.cells (tyCells boolT (.slice none 0 0) (.slice none 0 0) (.slice none 0 0):List Value).toArray 43)
   have h1:=TysR.one (t:=boolT) hbx (HFW.out _ (Nat.le_refl _)) (kindNil 1 (⟨by decide,by decide⟩:I64 1) _ ρ 0)
   have hcall:=same_any q 1 _ ρ ag [boolT] G (some ⟨W.heap.size,0,none⟩) cg 1 (HGW.out.step hsa) h1
   rw [HZ.out] at hcall
   refine hcall.mono ?_
   rintro e Wn ⟨rfl,hdn⟩
   have HSc:=Hd.mk (hsa.trans (hdn.step ρ))
   clear hbx hsa h1 hcall hdn
   go_wp2_with fail
   refine tkK hK (by first|exact keepU_of HSc.out|exact keepU_of (HSc.out.alloc _)) (fun hHeld=>?_)
   clear hK K
   refine tkP 4 ?_
   refine tkP 5 ?_
   refine tkP 6 ?_
   refine tkP 7 ?_
   refine tkP 8 ?_
   refine tkP 9 ?_
   refine tkP 10 ?_
   refine tkU 11 ?_
   refine tkU 12 ?_
   refine tkU 13 ?_
   refine tkU 14 ?_
   refine tkU 15 ?_
   refine tkU 16 ?_
   refine tkU 17 ?_
   refine tkP 18 ?_
   refine tkP 19 ?_
   refine wpAnyH_done (by kernel_rfl) ?_ _
   go_wp2
   go_ret
   first|exact ⟨ρ,rfl,(((CkP.refl HC.out HO.out).after (HSW.out.trans HSc.out)).no rfl)⟩|exact ⟨rfl,ρ,(((CkP.refl HC.out HO.out).after (HSW.out.trans HSc.out)).no rfl)⟩
end
theorem nested_27 (nd N:Nat) (HBC:Hd (BlockC p ty nd N)) (hP:HdP p) (w:World) (ρ:Ghost) (C:Nat) (hd:List Value) (mb:Nat) (c:CS) (s:St) (S0 S1 S2 S3 S4 S5 S6 S7 S8 S9:Option Addr) (s0 s1 s2 s3 s4 s5 s6 s7 s8 s9:Nat) (ag:List Ty) (G:Option Addr) (cg q:Nat) (hC:CkR (fun t=>formed1 p.datas ty t=true) w ρ C hd mb c false) (hK:CkS w ρ p ty nd hd) (hV:StV w ρ N s (.slice S0 s.ty.args.length s0) (.slice S1 s.ty.eff.regs.length s1) (.slice S2 s.ty.eff.vars.length s2) (.slice S3 s.args.length s3) (.slice S4 s.types.length s4) (.slice S5 s.effs.length s5) (.slice S6 s.regs.length s6) (.slice S7 s.modes.length s7) (.slice S8 s.keep.length s8) (.slice S9 s.blocks.length s9)) (hG:TysR w ρ q (.slice G ag.length cg) ag) (hFG:∀ t,t ∈ ag→formed1 p.datas ty t=true) (hFt:formed1 p.datas ty s.ty=true) (hop:s.op=27) (hfr:Fresh w ρ) (ho:OnlyCk ρ) :
 Calls Try.prog 41 #[.pointer (some ⟨C,0,none⟩), .agg (stCells s (.slice S0 s.ty.args.length s0) (.slice S1 s.ty.eff.regs.length s1) (.slice S2 s.ty.eff.vars.length s2) (.slice S3 s.args.length s3) (.slice S4 s.types.length s4) (.slice S5 s.effs.length s5) (.slice S6 s.regs.length s6) (.slice S7 s.modes.length s7) (.slice S8 s.keep.length s8) (.slice S9 s.blocks.length s9)).toArray, .slice G ag.length cg] w fun e w'=>∃ ρ',e= .returned (.bool (nestedC p ty c s ag).isOk)∧CkP (fun t=>formed1 p.datas ty t=true) w ρ w' ρ' C hd mb c (nestedC p ty c s ag):=by
 have HOP:=Hd.mk hop
 have HPH:=Hd.mk hP
 obtain ⟨r,hr⟩:∃ z,nestedC p ty c s ag=z:=⟨_,rfl⟩
 rw [hr]
 have HR:=Hd.mk hr
 have HC:=Hd.mk hC
 have HK:=Hd.mk hK
 have HV:=Hd.mk hV
 have HG:=Hd.mk hG
 have HFG:=Hd.mk hFG
 have HFT:=Hd.mk hFt
 have HFR:=Hd.mk hfr
 have HO:=Hd.mk ho
 generalize hcs:(stCells s (.slice S0 s.ty.args.length s0) (.slice S1 s.ty.eff.regs.length s1) (.slice S2 s.ty.eff.vars.length s2) (.slice S3 s.args.length s3) (.slice S4 s.types.length s4) (.slice S5 s.effs.length s5) (.slice S6 s.regs.length s6) (.slice S7 s.modes.length s7) (.slice S8 s.keep.length s8) (.slice S9 s.blocks.length s9))=cs
 have HCE:=Hd.mk hcs
 have hg0:cs[0]? =some (.int .i64 27):=by rw [←hcs];rw [←hop];rfl
 have TWH:=Hd.mk (nested_world w ρ cs)
 clear hC hK hV hG hFG hFt hfr ho hr hcs hop hP
 go_enter Try.func41,Try.ntmps41
 go_wp2_with fail
 generalize hX9:w.heap.size+1+1+1=X9 at TWH ⊢
 generalize hX8:w.heap.size+1+1=X8 at TWH ⊢
 generalize hX7:w.heap.size+1=X7 at TWH ⊢
 generalize hX4:w.heap.size=X4 at TWH ⊢
 have HX:=Hd.mk (And.intro hX4 (And.intro hX7 (And.intro hX8 hX9)))
 clear hX4 hX7 hX8 hX9
 generalize (((w.alloc (.cells cs.toArray 94)).alloc (.cells #[.int .i64 0, .int .i64 0, .string ⟨#[]⟩, .slice none 0 0, .int .i64 0, .slice none 0 0, .slice none 0 0] 43)).alloc (.cells #[.int .i64 1, .int .i64 0, .string ⟨#[]⟩, .slice none 0 0, .int .i64 0, .slice none 0 0, .slice none 0 0] 43))=W at *
 have HSW:=Hd.mk TWH.out.step
 have HCW:=Hd.mk (HC.out.step HSW.out (fun _ _ h=>h))
 have HKW:=Hd.mk (HK.out.step HSW.out)
 have HVW:=Hd.mk (HV.out.step HSW.out)
 have HGW:=Hd.mk (HG.out.step HSW.out)
 have HFW:=Hd.mk (HSW.out.fresh HFR.out)
 have n4:ρ X4=none:=HFR.out _ (by have:=HX.out.1;omega)
 have l4:X4<W.heap.size:=TWH.out.b4.lt
 match ag with
 |[] =>
  simp only [List.length_nil]
  have hrr:r= .no:=by rw [←HR.out];exact nested_nocase p ty c s _ HOP.out (fun a ha=>by simp at ha)
  subst hrr
  have e18:W.cell? ⟨X4,18,none⟩=some (.slice S9 s.blocks.length s9):=TWH.out.b4.cell (i:=18) (by rw [←HCE.out];exact rfl)
  have HSc:=Hd.mk ((Step.refl (fun _=>False) W ρ).drew)
  refine wp_region_held_drew (S:=(fun wv=>Step (fun _=>False) W ρ wv ρ∧∀ a:Addr,a.block<W.heap.size→wv.cell? a=W.cell? a)) (by kernel_rfl) (keepS_of HSc.out) (fun hHeld=>?_)
  refine tkP 0 ?_
  refine tkP 1 ?_
  refine tkP 2 ?_
  refine tkP 3 ?_
  refine tkU 4 ?_
  refine tkU 5 ?_
  refine tkU 6 ?_
  refine tkU 7 ?_
  refine tkU 8 ?_
  refine tkP 9 ?_
  refine tkP 10 ?_
  refine tkU 11 ?_
  refine tkU 12 ?_
  refine tkU 13 ?_
  refine tkU 14 ?_
  refine tkU 15 ?_
  refine tkU 16 ?_
  refine tkU 17 ?_
  refine tkU 18 ?_
  refine tkU 19 ?_
  refine tkU 20 ?_
  refine tkU 21 ?_
  refine tkU 22 ?_
  refine tkU 23 ?_
  refine tkU 24 ?_
  refine tkU 25 ?_
  refine tkU 26 ?_
  refine tkU 27 ?_
  refine tkP 28 ?_
  refine wpAnyH_done (by kernel_rfl) ?_ _
  go_wp2
  go_ret
  first|exact ⟨ρ,rfl,(((CkP.refl HC.out HO.out).after (HSW.out.trans HSc.out)).no rfl)⟩|exact ⟨rfl,ρ,(((CkP.refl HC.out HO.out).after (HSW.out.trans HSc.out)).no rfl)⟩
 |a0 :: a1 :: l0 =>
  have z1:((l0.length:Int)+1+1 == 1)=false:=by simp;omega
  have z2:((l0.length:Int)+1+1 != 1)=true:=by simp;omega
  have z3:¬((l0.length:Int)+1+1=1):=by omega
  have z4:decide ((l0.length:Int)+1+1=1)=false:=by simp;omega
  simp only [List.length_cons]
  have hrr:r= .no:=by rw [←HR.out];exact nested_nocase p ty c s _ HOP.out (fun a ha=>by simp at ha)
  subst hrr
  have e18:W.cell? ⟨X4,18,none⟩=some (.slice S9 s.blocks.length s9):=TWH.out.b4.cell (i:=18) (by rw [←HCE.out];exact rfl)
  have HSc:=Hd.mk ((Step.refl (fun _=>False) W ρ).drew)
  refine wp_region_held_drew (S:=(fun wv=>Step (fun _=>False) W ρ wv ρ∧∀ a:Addr,a.block<W.heap.size→wv.cell? a=W.cell? a)) (by kernel_rfl) (keepS_of HSc.out) (fun hHeld=>?_)
  refine tkP 0 ?_
  refine tkP 1 ?_
  refine tkP 2 ?_
  refine tkP 3 ?_
  refine tkU 4 ?_
  refine tkU 5 ?_
  refine tkU 6 ?_
  refine tkU 7 ?_
  refine tkU 8 ?_
  refine tkP 9 ?_
  refine tkP 10 ?_
  refine tkU 11 ?_
  refine tkU 12 ?_
  refine tkU 13 ?_
  refine tkU 14 ?_
  refine tkU 15 ?_
  refine tkU 16 ?_
  refine tkU 17 ?_
  refine tkU 18 ?_
  refine tkU 19 ?_
  refine tkU 20 ?_
  refine tkU 21 ?_
  refine tkU 22 ?_
  refine tkU 23 ?_
  refine tkU 24 ?_
  refine tkU 25 ?_
  refine tkU 26 ?_
  refine tkU 27 ?_
  refine tkP 28 ?_
  refine wpAnyH_done (by kernel_rfl) ?_ _
  go_wp2
  go_ret
  first|exact ⟨ρ,rfl,(((CkP.refl HC.out HO.out).after (HSW.out.trans HSc.out)).no rfl)⟩|exact ⟨rfl,ρ,(((CkP.refl HC.out HO.out).after (HSW.out.trans HSc.out)).no rfl)⟩
 |[a] =>
  obtain ⟨bG,oG,mG,E0,g0,E1,g1,E2,g2,hNA,hmN,hRN,hTN,hcN⟩:=HGW.out.elemC (k:=0) (t:=a) rfl
  subst hNA
  have HAT:Hd (TyR W ρ q a (tyCells a (.slice E0 a.args.length g0) (.slice E1 a.eff.regs.length g1) (.slice E2 a.eff.vars.length g2))):=⟨hRN⟩
  obtain ⟨bG',oG',hbG,nbG,lbG⟩:∃ b o,(some ⟨bG,oG,none⟩:Option Addr)=some ⟨b,o,none⟩∧ρ b=none∧b<W.heap.size:=by
   obtain ⟨A',c',hv,_,_,_,h5⟩:=HGW.out.out
   cases hv
   obtain ⟨b,o,cs0,f1,f2,f3,_⟩:=h5 0 a rfl
   exact ⟨b,o,f1,f2,f3⟩
  cases hbG
  have hcN0:∀ j u,(tyCells a (.slice E0 a.args.length g0) (.slice E1 a.eff.regs.length g1) (.slice E2 a.eff.vars.length g2))[j]? =some u→W.cell? ⟨bG,oG+j,none⟩=some u:=fun j u hj=>by simpa using hcN j u hj
  have HCN:=Hd.mk hcN0
  have m0:W.cell? ⟨bG,oG,none⟩=some (.int .i64 a.kind):=hcN0 0 _ rfl
  have HFA:=Hd.mk (HFG.out a (List.mem_singleton.2 rfl))
  simp only [List.length_singleton]
  clear hRN hTN hmN hcN hcN0
  by_cases h4:a.kind=4
  ·obtain ⟨n,d,hn,hd0,hdl,hnl⟩:=formed1_data HFA.out h4
   have HA4:=Hd.mk h4
   have HCN2:Hd (consOf p a.n=d.cons):=⟨by unfold consOf;rw [hn,Int.toNat_natCast,hd0];rfl⟩
   have m1:W.cell? ⟨bG,oG+1,none⟩=some (.int .i64 n):=by have:=HCN.out 1 _ rfl;rw [hn] at this;exact this
   rw [h4] at m0
   have HN:=Hd.mk hn
   obtain ⟨A1,q1,A2,q2,A3,q3,k0,k1,k2,k6,kD,kF⟩:=HKW.out.out
   have yC0:W.cell? ⟨C,0,none⟩=some (.slice A1 p.datas.length q1):=HCW.out.cell k0
   obtain ⟨bD,oD,V1,v1,V2,v2,rfl,_,hcons,_,_,z2⟩:=kD.elem hd0
   have lC:C<W.heap.size:=HCW.out.lt
   have lD:bD<W.heap.size:=World.block_lt_of_cell? W ⟨bD,_,none⟩ z2
   have hni:(n:Int)<p.datas.length:=by omega
   have hn0:(0:Int)≤n:=by omega
   clear k0 k1 k2 k6 kD kF hcons hn hd0 hdl hnl h4
   by_cases hl:s.blocks.length=d.cons.length
   ·have w1:((s.blocks.length:Int) == (d.cons.length:Int))=true:=by simp [hl]
    have w2:((s.blocks.length:Int) != (d.cons.length:Int))=false:=by simp [hl]
    have w3:decide ((s.blocks.length:Int)=(d.cons.length:Int))=true:=by simp [hl]
    have w4:decide (s.blocks.length=d.cons.length)=true:=by simp [hl]
    have HLN:Hd (s.blocks.length=(consOf p a.n).length):=⟨by rw [HCN2.out];exact hl⟩
    have HRV:Hd (casesR p ty c s a=r):=⟨by rw [←nested_case p ty c s a HOP.out HA4.out HLN.out];exact HR.out⟩
    clear hl
    have e18:W.cell? ⟨X4,18,none⟩=some (.slice S9 s.blocks.length s9):=TWH.out.b4.cell (i:=18) (by rw [←HCE.out];exact rfl)
    have HSc:=Hd.mk ((Step.refl (fun _=>False) W ρ).drew)
    refine wp_region_held_drew (S:=(fun wv=>Step (fun _=>False) W ρ wv ρ∧∀ a:Addr,a.block<W.heap.size→wv.cell? a=W.cell? a)) (by kernel_rfl) (keepS_of HSc.out) (fun hHeld=>?_)
    refine tkP 0 ?_
    refine tkP 1 ?_
    refine tkP 2 ?_
    refine tkP 3 ?_
    refine tkP 4 ?_
    refine tkP 5 ?_
    refine tkP 6 ?_
    refine tkP 7 ?_
    refine tkP 8 ?_
    refine tkP 9 ?_
    refine tkP 10 ?_
    refine tkP 11 ?_
    refine tkP 12 ?_
    refine tkP 13 ?_
    refine tkP 14 ?_
    refine tkP 15 ?_
    refine tkP 16 ?_
    refine tkP 17 ?_
    refine tkP 18 ?_
    refine tkP 19 ?_
    refine tkP 20 ?_
    refine tkP 21 ?_
    refine tkP 22 ?_
    refine tkP 23 ?_
    refine tkP 24 ?_
    refine tkP 25 ?_
    refine tkP 26 ?_
    refine tkP 27 ?_
    refine tkP 28 ?_
    refine wpAnyH_done (by kernel_rfl) ?_ _
    go_wp2_with fail
    have HS2:=HSc
    have HB42:=Hd.mk TWH.out.b4.drew
    have hs2:=HSc.out
    have m0:=HCN.out 0 _ rfl
    have m1:=HCN.out 1 _ rfl
    have m2:=HCN.out 2 _ rfl
    have m3:=HCN.out 3 _ rfl
    have m4:=HCN.out 4 _ rfl
    have m5:=HCN.out 5 _ rfl
    have m6:=HCN.out 6 _ rfl
    rw [Nat.add_zero] at m0
    have l42:=HB42.out.lt
    have HRNX:Hd (∀ wv:World,(∀ a:Addr,a.block<W.drew.heap.size→ρ a.block=none→wv.cell? a=W.drew.cell? a)→wv.rangeAt X4 0 cs):=⟨fun wv hSw j u hj=>(hSw ⟨X4,0+j,none⟩ l42 n4).trans (by rw [Nat.zero_add];exact HB42.out.cell hj)⟩
    have HIN:Hd ((Try.prog.info? 94).map (·.size)=some cs.length):=⟨by rw [←HCE.out];kernel_rfl⟩
    clear e18 yC0 z2 w1 w2 w3 w4 l42 l4 lD lC
    clear HSc
    have l4:X4<W.drew.heap.size:=HB42.out.lt
    have lbG2:bG<W.drew.heap.size:=lbG
    have M0:W.drew.cell? ⟨bG,oG,none⟩=some (.int .i64 a.kind):=m0
    have M1:W.drew.cell? ⟨bG,oG+1,none⟩=some (.int .i64 a.n):=m1
    have M2:W.drew.cell? ⟨bG,oG+2,none⟩=some (.string a.name):=m2
    have M3:W.drew.cell? ⟨bG,oG+3,none⟩=some (.slice E0 a.args.length g0):=m3
    have M4:W.drew.cell? ⟨bG,oG+4,none⟩=some (.int .i64 a.region):=m4
    have M5:W.drew.cell? ⟨bG,oG+5,none⟩=some (.slice E1 a.eff.regs.length g1):=m5
    have M6:W.drew.cell? ⟨bG,oG+6,none⟩=some (.slice E2 a.eff.vars.length g2):=m6
    clear m0 m1 m2 m3 m4 m5 m6 lbG hs2
    generalize hW2:W.drew=W2 at HS2 HB42 HRNX l4 lbG2 M0 M1 M2 M3 M4 M5 M6 ⊢
    clear hW2
    have HSc:=Hd.mk ((Step.refl (fun _=>False) W2 ρ).drew)
    have HS23:Hd (Step (fun _=>False) W ρ W2.drew ρ):=⟨HS2.out.trans HSc.out⟩
    refine wp_region_held_drew (S:=(fun wv=>∀ a:Addr,a.block<W2.heap.size→ρ a.block=none→wv.cell? a=W2.cell? a)) (by kernel_rfl) (keepU_of HSc.out) (fun hHeld=>?_)
    refine tkP 0 ?_
    refine tkL 1 (.agg cs.toArray) ?_ ?_
    ·exact yieldsIf_load_mid (by rfl) _ _ rfl X4 0 rfl cs _ (fun wv hSw=>HRNX.out wv hSw) Try.underlying94 rfl HIN.out
    refine tkP 2 ?_
    refine tkP 3 ?_
    refine tkP 4 ?_
    refine tkR 5 (fun K hK=>?_)
    go_simp
    go_at_call 55
    have hcall:=cases_any p ty nd N HPH.out HBC W2.drew ρ C hd mb c s S0 S1 S2 S3 S4 S5 S6 S7 S8 S9 s0 s1 s2 s3 s4 s5 s6 s7 s8 s9 a q E0 E1 E2 g0 g1 g2 (HCW.out.step HS23.out (fun _ _ h=>h)) (HKW.out.step HS23.out) (HVW.out.step HS23.out) (TyR.step HS23.out _ HAT.out) HA4.out HFA.out HFT.out HLN.out (HS23.out.fresh HFW.out) HO.out
    rw [HCE.out,HRV.out] at hcall
    refine hcall.mono ?_
    rintro e Wn ⟨ρn,rfl,hPn⟩
    have HPN:=Hd.mk hPn
    have HSc:=Hd.mk ((HSc.out.mono (fun _ h=>h.elim):Step CkT W2 ρ W2.drew ρ).trans hPn.step)
    clear hcall hPn
    go_wp2_with fail
    refine tkK hK (by first|exact keepU_of HSc.out|exact keepU_of (HSc.out.alloc _)) (fun hHeld=>?_)
    clear hK K
    refine tkP 6 ?_
    refine wpAnyH_done (by kernel_rfl) ?_ _
    go_wp2
    go_ret
    exact ⟨ρn,rfl,((CkP.refl HC.out HO.out).after (HSW.out.trans HS23.out)).andThen HPN.out⟩
   ·have w1:((s.blocks.length:Int) == (d.cons.length:Int))=false:=by simp;omega
    have w2:((s.blocks.length:Int) != (d.cons.length:Int))=true:=by simp;omega
    have w3:decide ((s.blocks.length:Int)=(d.cons.length:Int))=false:=by simp;omega
    have w4:decide (s.blocks.length=d.cons.length)=false:=by simp;omega
    have HRZ:Hd (r= .no):=⟨by rw [←HR.out];exact nested_nocase p ty c s _ HOP.out (fun a' ha=>by cases ha;rw [HCN2.out];exact fun h=>hl h.2)⟩
    have hrr:=HRZ.out
    subst hrr
    clear hl
    have e18:W.cell? ⟨X4,18,none⟩=some (.slice S9 s.blocks.length s9):=TWH.out.b4.cell (i:=18) (by rw [←HCE.out];exact rfl)
    have HSc:=Hd.mk ((Step.refl (fun _=>False) W ρ).drew)
    refine wp_region_held_drew (S:=(fun wv=>Step (fun _=>False) W ρ wv ρ∧∀ a:Addr,a.block<W.heap.size→wv.cell? a=W.cell? a)) (by kernel_rfl) (keepS_of HSc.out) (fun hHeld=>?_)
    refine tkP 0 ?_
    refine tkP 1 ?_
    refine tkP 2 ?_
    refine tkP 3 ?_
    refine tkP 4 ?_
    refine tkP 5 ?_
    refine tkP 6 ?_
    refine tkP 7 ?_
    refine tkP 8 ?_
    refine tkP 9 ?_
    refine tkP 10 ?_
    refine tkP 11 ?_
    refine tkP 12 ?_
    refine tkP 13 ?_
    refine tkP 14 ?_
    refine tkP 15 ?_
    refine tkP 16 ?_
    refine tkP 17 ?_
    refine tkP 18 ?_
    refine tkP 19 ?_
    refine tkP 20 ?_
    refine tkP 21 ?_
    refine tkP 22 ?_
    refine tkP 23 ?_
    refine tkP 24 ?_
    refine tkP 25 ?_
    refine tkP 26 ?_
    refine tkP 27 ?_
    refine tkP 28 ?_
    refine wpAnyH_done (by kernel_rfl) ?_ _
    go_wp2
    go_ret
    first|exact ⟨ρ,rfl,(((CkP.refl HC.out HO.out).after (HSW.out.trans HSc.out)).no rfl)⟩|exact ⟨rfl,ρ,(((CkP.refl HC.out HO.out).after (HSW.out.trans HSc.out)).no rfl)⟩
  ·have HRZ:Hd (r= .no):=⟨by rw [←HR.out];exact nested_nocase p ty c s _ HOP.out (fun a' ha=>by cases ha;exact fun h=>h4 h.1 |>.elim)⟩
   have hrr:=HRZ.out
   subst hrr
   have z1:(a.kind == 4)=false:=by simp;omega
   have z2:(a.kind != 4)=true:=by simp;omega
   have z3:decide (a.kind=4)=false:=by simp;omega
   have e18:W.cell? ⟨X4,18,none⟩=some (.slice S9 s.blocks.length s9):=TWH.out.b4.cell (i:=18) (by rw [←HCE.out];exact rfl)
   have HSc:=Hd.mk ((Step.refl (fun _=>False) W ρ).drew)
   refine wp_region_held_drew (S:=(fun wv=>Step (fun _=>False) W ρ wv ρ∧∀ a:Addr,a.block<W.heap.size→wv.cell? a=W.cell? a)) (by kernel_rfl) (keepS_of HSc.out) (fun hHeld=>?_)
   refine tkP 0 ?_
   refine tkP 1 ?_
   refine tkP 2 ?_
   refine tkP 3 ?_
   refine tkP 4 ?_
   refine tkP 5 ?_
   refine tkP 6 ?_
   refine tkP 7 ?_
   refine tkP 8 ?_
   refine tkP 9 ?_
   refine tkP 10 ?_
   refine tkU 11 ?_
   refine tkU 12 ?_
   refine tkU 13 ?_
   refine tkU 14 ?_
   refine tkU 15 ?_
   refine tkU 16 ?_
   refine tkU 17 ?_
   refine tkU 18 ?_
   refine tkU 19 ?_
   refine tkU 20 ?_
   refine tkU 21 ?_
   refine tkU 22 ?_
   refine tkU 23 ?_
   refine tkU 24 ?_
   refine tkU 25 ?_
   refine tkU 26 ?_
   refine tkU 27 ?_
   refine tkP 28 ?_
   refine wpAnyH_done (by kernel_rfl) ?_ _
   go_wp2
   go_ret
   first|exact ⟨ρ,rfl,(((CkP.refl HC.out HO.out).after (HSW.out.trans HSc.out)).no rfl)⟩|exact ⟨rfl,ρ,(((CkP.refl HC.out HO.out).after (HSW.out.trans HSc.out)).no rfl)⟩
end
end Go.Proofs.Ytadffbgbndibpaa
