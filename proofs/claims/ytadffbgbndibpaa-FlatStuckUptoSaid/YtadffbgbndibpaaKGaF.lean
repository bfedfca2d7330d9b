/- Tl, GaA, GaF: lemmas and walks of the claim. -/
import Derived.Test.YtadffbgbndibpaaKTk
import Derived.Test.YtadffbgbndibpaaKFlX
import Derived.Deep.RegionHeld
set_option linter.unusedVariables false
set_option linter.unusedSimpArgs false
set_option maxHeartbeats 16000000
set_option maxRecDepth 100000
namespace Go.Proofs.Ytadffbgbndibpaa
section
open Go Go.RowKit Go
section
variable {P:Program} {ops:Array Oper} {Q:Exit→Act→World→Prop} {md:Region.Mode} {S:World→Prop}
theorem tkR (i:Nat) {oi:Oper} {fuel:Nat} {listed:Array Bool} {a:Act} {w:World} (h:∀ K:Act→World→Prop,Shut (∀ a w,S w→(S w→wpAnyH P md ops Q S fuel (listed.setIfInBounds i true) a w)→K a w)→Oper.wp P oi a w K Q) (hr:Region.ready md ops listed=[i]:=by kernel_rfl) (hi:ops[i]? =some oi:=by (simp only [List.getElem?_toArray,List.getElem?_cons_succ,List.getElem?_cons_zero];rfl)) (hw:Region.wanted oi (yielded ops a.tmps)=true:=by rfl):wpAnyH P md ops Q S (fuel+1) listed a w :=
 wpAnyH_ready hr (by simp) (AllReadyH.cons hi (fun K hK=>by rw [if_pos hw];exact h K hK) AllReadyH.nil)
theorem tkK {K:Act→World→Prop} {fuel:Nat} {l l':Array Bool} {a a':Act} {w:World} (hK:Shut (∀ a w,S w→(S w→wpAnyH P md ops Q S fuel l a w)→K a w)) (hS:S w) (h:S w→wpAnyH P md ops Q S fuel l' a' w) (hl:l=l':=by ((try simp only [List.setIfInBounds_toArray,List.set_cons_zero,List.set_cons_succ]);rfl)) (ha:a=a':=by ((try simp only [Act.put,List.setIfInBounds_toArray,List.set_cons_zero,List.set_cons_succ]);rfl)):K a w :=
 hK.out a w hS (fun hs=>by rw [hl,ha];exact h hs)
theorem tkL (i:Nat) (v:Value) {oi:Oper} {fuel:Nat} {listed listed':Array Bool} {a a':Act} {w:World} (hy:YieldsIf P ops S oi v a) (h:wpAnyH P md ops Q S fuel listed' a' w) (hi:ops[i]? =some oi:=by (simp only [List.getElem?_toArray,List.getElem?_cons_succ,List.getElem?_cons_zero];rfl)) (hs:Region.noSelect ops=true:=by kernel_rfl) (hf:Region.free md ops listed i=true:=by kernel_rfl) (hr:(Region.ready md ops listed).contains i=true:=by kernel_rfl) (hQ:∀ c a w,Q (.panic c) (a.put oi.dst v) w→Q (.panic c) a w:=by exact fun _ _ _ h=>h) (hS:S w:=by assumption) (hl:listed.setIfInBounds i true=listed':=by ((try simp only [List.setIfInBounds_toArray,List.set_cons_zero,List.set_cons_succ]);rfl)) (ha:a.put oi.dst v=a':=by ((try simp only [Act.put,List.setIfInBounds_toArray,List.set_cons_zero,List.set_cons_succ]);rfl)):wpAnyH P md ops Q S (fuel+1) listed a w :=
 wpAnyH_take hi hs hf hr hQ hy hS (by rw [hl,ha];exact h)
end
end
section
open Go Go.RowKit
theorem rangeAt_step {w w':World} {ρ ρ':Ghost} {b o:Nat} {cs:List Value} (h:w.rangeAt b o cs) (hs:Step (fun _=>False) w ρ w' ρ'):w'.rangeAt b o cs:=fun j v hj=>by
 have h1:=h j v hj
 exact (World.cell?_of_block (a:=⟨b,o+j,none⟩) (hs.block b (World.block_lt_of_cell? w ⟨b,o+j,none⟩ h1) (fun _ _ h=>h))).trans h1
theorem Blk.there {w:World} {b:Nat} {T:TypeId} {L:List Value} (h:Blk w b T L) (n:Nat) (hn:n≤L.length):w.there b 0 n:=fun j hj=>by
 rw [Nat.zero_add]
 refine ⟨?_,h.free j⟩
 rw [h.at,List.getElem?_eq_getElem (by omega)]
 rfl
theorem wp_store_newO {P:Program} {op:Oper} {a:Act} {W:World} {K:Act→World→Prop} {Q:Exit→Act→World→Prop} (ty:TypeId) (x y:Operand) (ho:op.op= .store ty x y) (Z cells:Array Value) (hx:a.eval x= .pointer (some ⟨W.heap.size,0,none⟩)) (hy:a.eval y= .agg cells) (hi:(P.info? ty).map (·.size)=some cells.size) (hz:Z.size=cells.size) (h1:cells.all (·.oneCell')=true) (h:K (a.put op.dst undef) (W.alloc (.cells cells ty))):Oper.wp P op a (W.alloc (.cells Z ty)) K Q:=by
 unfold Oper.wp execOp
 simp only [ho,hx,hy,Sem.run_bind,Sem.run_pure,run_storeAt_new (P:=P) W ty Z cells hi hz h1,Result.andThen_ok]
 exact h
theorem keepS_of {W wv:World} {ρ:Ghost} (h:Step (fun _=>False) W ρ wv ρ):Step (fun _=>False) W ρ wv ρ∧∀ a:Addr,a.block<W.heap.size→wv.cell? a=W.cell? a :=
 ⟨h,fun a ha=>World.cell?_of_block (h.block a.block ha (fun _ _ h=>h))⟩
theorem called_any (F:Ty→Prop) (w:World) (ρ:Ghost) (n:Nat) (p:Pg) (ty:Int) (nd:Nat) (C:Nat) (hd:List Value) (mb:Nat) (c:CS) (bg:Bool) (s:St) (S0 S1 S2 S3 S4 S5 S6 S7 S8 S9:Option Addr) (s0 s1 s2 s3 s4 s5 s6 s7 s8 s9:Nat) (ag:List Ty) (G:Option Addr) (cg q:Nat) (hC:CkR F w ρ C hd mb c bg) (hK:CkS w ρ p ty nd hd) (hV:StV w ρ n s (.slice S0 s.ty.args.length s0) (.slice S1 s.ty.eff.regs.length s1) (.slice S2 s.ty.eff.vars.length s2) (.slice S3 s.args.length s3) (.slice S4 s.types.length s4) (.slice S5 s.effs.length s5) (.slice S6 s.regs.length s6) (.slice S7 s.modes.length s7) (.slice S8 s.keep.length s8) (.slice S9 s.blocks.length s9)) (hG:TysR w ρ q (.slice G ag.length cg) ag) (hfr:Fresh w ρ) (hP:HdP p) :
 Calls Try.prog 53 #[.pointer (some ⟨C,0,none⟩), .agg (stCells s (.slice S0 s.ty.args.length s0) (.slice S1 s.ty.eff.regs.length s1) (.slice S2 s.ty.eff.vars.length s2) (.slice S3 s.args.length s3) (.slice S4 s.types.length s4) (.slice S5 s.effs.length s5) (.slice S6 s.regs.length s6) (.slice S7 s.modes.length s7) (.slice S8 s.keep.length s8) (.slice S9 s.blocks.length s9)).toArray, .slice G ag.length cg] w fun e w'=>e= .returned (.bool (calledC p s ag))∧Below w.heap.size w w':=by
 have HC:=Hd.mk hC
 have HV:=Hd.mk hV
 have HG:=Hd.mk hG
 have HFR:=Hd.mk hfr
 have HP:=Hd.mk hP
 obtain ⟨r,hr⟩:∃ z,calledC p s ag=z:=⟨_,rfl⟩
 rw [hr]
 have HR:=Hd.mk hr
 obtain ⟨A1,q1,A2,q2,A3,q3,k0,k1,k2,k6,kD,kF⟩:=hK.out
 have yC:w.cell? ⟨C,2,none⟩=some (.slice A3 p.funs.length q3):=hC.cell k2
 have lC:C<w.heap.size:=hC.lt
 have HKF:=Hd.mk kF
 have HCS:=Hd.mk (Blk.new w (stCells s (.slice S0 s.ty.args.length s0) (.slice S1 s.ty.eff.regs.length s1) (.slice S2 s.ty.eff.vars.length s2) (.slice S3 s.args.length s3) (.slice S4 s.types.length s4) (.slice S5 s.effs.length s5) (.slice S6 s.regs.length s6) (.slice S7 s.modes.length s7) (.slice S8 s.keep.length s8) (.slice S9 s.blocks.length s9)) 94)
 have HS1:=Hd.mk ((Step.refl (fun _=>False) w ρ).alloc (.cells (stCells s (.slice S0 s.ty.args.length s0) (.slice S1 s.ty.eff.regs.length s1) (.slice S2 s.ty.eff.vars.length s2) (.slice S3 s.args.length s3) (.slice S4 s.types.length s4) (.slice S5 s.effs.length s5) (.slice S6 s.regs.length s6) (.slice S7 s.modes.length s7) (.slice S8 s.keep.length s8) (.slice S9 s.blocks.length s9)).toArray 94))
 generalize hcs:(stCells s (.slice S0 s.ty.args.length s0) (.slice S1 s.ty.eff.regs.length s1) (.slice S2 s.ty.eff.vars.length s2) (.slice S3 s.args.length s3) (.slice S4 s.types.length s4) (.slice S5 s.effs.length s5) (.slice S6 s.regs.length s6) (.slice S7 s.modes.length s7) (.slice S8 s.keep.length s8) (.slice S9 s.blocks.length s9))=cs at HCS HS1 ⊢
 have hg11:cs[11]? =some (.int .i64 s.code):=by rw [←hcs];rfl
 have HCE:=Hd.mk hcs
 clear hC hK hV hG hfr hP hr hcs k0 k1 k2 k6 kD kF
 go_enter Try.func53,Try.ntmps53
 go_wp2_with fail
 generalize hX4:w.heap.size=X4 at *
 generalize w.alloc (.cells cs.toArray 94)=W at *
 have y11:W.cell? ⟨X4,11,none⟩=some (.int .i64 s.code):=HCS.out.cell (i:=11) hg11
 have yC2:W.cell? ⟨C,2,none⟩=some (.slice A3 p.funs.length q3):=(World.cell?_of_block (HS1.out.block C (by omega) (fun _ _ h=>h))).trans yC
 have lC2:C<W.heap.size:=HS1.out.size |> Nat.lt_of_lt_of_le (by omega)
 have HX4:=Hd.mk hX4
 clear yC hX4
 by_cases h0:s.code<0
 ·have hrr:r=false:=by rw [←HR.out];unfold calledC;simp;omega
  subst hrr
  go_quiet (skip)
  have HSQ:=Hd.mk (HS1.out.drewN nq)
  generalize W.drewN nq=Wq at *
  go_wp2
  go_ret
  exact ⟨rfl,HSQ.out.toBelow⟩
 ·obtain ⟨cc,hcc⟩:=Int.eq_ofNat_of_zero_le (show 0≤s.code by omega)
  rw [hcc] at y11
  have hcc0:¬(cc:Int)<0:=by omega
  by_cases h1:cc<p.funs.length
  ·have h1i:(cc:Int)<((p.funs.length:Nat):Int):=by omega
   have h1j:¬((p.funs.length:Nat):Int)≤(cc:Int):=by omega
   have hcc1:(0:Int)≤(cc:Int):=by omega
   have HCC:=Hd.mk hcc
   clear h0 hcc
   go_quiet (skip)
   have HSQ:=Hd.mk (HS1.out.drewN nq)
   have HCQ:=Hd.mk (HCS.out.drewN nq)
   have yq11:(W.drewN nq).cell? ⟨X4,11,none⟩=some (.int .i64 (cc:Int)):=y11
   have yqC2:(W.drewN nq).cell? ⟨C,2,none⟩=some (.slice A3 p.funs.length q3):=yC2
   have lqC2:C<(W.drewN nq).heap.size:=lC2
   have hl4:=HCQ.out.lt
   clear y11 yC2 lC2
   generalize W.drewN nq=Wq at *
   obtain ⟨bF,oF,e1,e2,vp,va0,r1,r2,vb,vs,hA3,hFV,hcF⟩:=(HKF.out.step HSQ.out).elem (List.getElem?_eq_getElem h1)
   subst hA3
   have hgf:=List.getElem?_eq_getElem h1
   generalize p.funs[cc]=f at *
   have HGF:=Hd.mk hgf
   clear hgf
   obtain ⟨_,_,_,_,_,hty,_,_,_,_,hy0,hy1,hy2⟩:=TyR.shape hFV.result
   simp only [List.cons.injEq,and_true,true_and] at hty
   obtain ⟨rfl,rfl,rfl⟩:=hty
   obtain ⟨_,_,_,_,hbd,_,_,hy5,hy6⟩:=BkR.shape hFV.body
   simp only [List.cons.injEq,and_true,true_and] at hbd
   obtain ⟨rfl,rfl⟩:=hbd
   have hy3:=hFV.t1
   have hy4:=hFV.t2
   have hy7:=hFV.params
   obtain ⟨a0,k0,rfl,hl0,hm0⟩:=SlR.form hy3
   obtain ⟨a1,k1,rfl,hl1,hm1⟩:=SlR.form hy4
   obtain ⟨a2,k2,rfl,hl2,hm2⟩:=SlR.form hy7
   obtain ⟨a3,k3,rfl,hl3,hm3⟩:=SlR.form hy0
   obtain ⟨a4,k4,rfl,hl4,hm4⟩:=SlR.form hy1
   obtain ⟨a5,k5,rfl,hl5,hm5⟩:=SlR.form hy2
   obtain ⟨a6,k6,rfl,hl6,hm6⟩:=SlR.form hy5
   obtain ⟨a7,k7,rfl,hl7,hm7⟩:=SlR.form hy6
   clear hy0 hy1 hy2 hy3 hy4 hy5 hy6 hy7 hl0 hm0 hl1 hm1 hl2 hm2 hl3 hm3 hl4 hm4 hl5 hm5 hl6 hm6 hl7 hm7
   have hcFl:(fuCells f (.slice a0 f.touch.regs.length k0) (.slice a1 f.touch.vars.length k1) (.slice a2 f.params.length k2) (.slice a3 f.result.args.length k3) (.slice a4 f.result.eff.regs.length k4) (.slice a5 f.result.eff.vars.length k5) (.slice a6 f.body.bind.length k6) (.slice a7 f.body.steps.length k7)).length=19:=rfl
   have hone:(fuCells f (.slice a0 f.touch.regs.length k0) (.slice a1 f.touch.vars.length k1) (.slice a2 f.params.length k2) (.slice a3 f.result.args.length k3) (.slice a4 f.result.eff.regs.length k4) (.slice a5 f.result.eff.vars.length k5) (.slice a6 f.body.bind.length k6) (.slice a7 f.body.steps.length k7)).toArray.all (·.oneCell')=true:=fuCells_one ..
   generalize hcf:fuCells f (.slice a0 f.touch.regs.length k0) (.slice a1 f.touch.vars.length k1) (.slice a2 f.params.length k2) (.slice a3 f.result.args.length k3) (.slice a4 f.result.eff.regs.length k4) (.slice a5 f.result.eff.vars.length k5) (.slice a6 f.body.bind.length k6) (.slice a7 f.body.steps.length k7)=cf at hcF hcFl hone
   have HCF:=Hd.mk hcf
   have HSZ:Hd (cf.toArray.size=19):=⟨by rw [List.size_toArray,hcFl]⟩
   have HON:=Hd.mk hone
   have hlF:bF<Wq.heap.size:=World.block_lt_of_cell? Wq ⟨bF,_,none⟩ (hcF 0 (.string f.name) (by rw [←hcf];rfl))
   have HRF:Hd (Wq.rangeAt bF (oF+cc*19) cf):=⟨hcF⟩
   have HIN:Hd ((Try.prog.info? 48).map (·.size)=some cf.length):=⟨by rw [hcFl];kernel_rfl⟩
   have HIN2:Hd ((Try.prog.info? 48).map (·.size)=some cf.toArray.size):=⟨by rw [HSZ.out];kernel_rfl⟩
   clear hcf hcFl hone
   have HSc:=Hd.mk ((Step.refl (fun _=>False) Wq ρ).drew)
   clear hcF
   go_wp2_with fail
   refine wp_region_held_drew (S:=fun wv=>Step (fun _=>False) Wq ρ wv ρ∧∀ a:Addr,a.block<Wq.heap.size→wv.cell? a=Wq.cell? a) (by kernel_rfl) (keepS_of HSc.out) (fun hHeld=>?_)
   refine tkP 0 ?_
   refine tkP 1 ?_
   refine tkP 2 ?_
   refine tkP 3 ?_
   refine tkP 4 ?_
   refine tkP 5 ?_
   refine tkP 6 ?_
   refine tkP 7 ?_
   refine tkL 8 (.agg cf.toArray) ?_ ?_
   ·exact yieldsIf_load_mid (by rfl) _ _ rfl bF (oF+cc*19) rfl cf _ (fun wv hSw=>rangeAt_step HRF.out hSw.1) Try.underlying48 rfl HIN.out
   refine tkR 9 (fun K hK=>?_)
   go_simp
   refine hK.out _ _ (keepS_of (HSc.out.alloc _)) (fun hHeld2=>?_)
   clear hK K
   refine tkR 10 (fun K hK=>?_)
   rw [show ∀ o,(Wq.alloc o).drew=Wq.drew.alloc o from fun _=>rfl]
   refine wp_store_newO 48 _ _ rfl _ cf.toArray rfl rfl HIN2.out (by exact Eq.trans rfl HSZ.out.symm) HON.out ?_
   refine hK.out _ _ (keepS_of (HSc.out.alloc _)) (fun hHeld3=>?_)
   clear hK K
   refine wpAnyH_done (by kernel_rfl) ?_ _
   have HSF:=Hd.mk (HSc.out.alloc (.cells cf.toArray 48))
   have hbf:Blk (Wq.drew.alloc (.cells cf.toArray 48)) Wq.heap.size 48 cf:=Blk.new' Wq.drew cf.toArray 48
   generalize Wq.drew.alloc (.cells cf.toArray 48)=W5 at *
   generalize Wq.heap.size=XF at *
   have HBF:Hd (Blk W5 XF 48 cf):=⟨hbf⟩
   have HC5:=Hd.mk (HSF.out.blk HCQ.out (fun _ _ h=>h))
   have hSx:=HSQ.out.trans HSF.out
   have hcf2:cf[2]? =some (.int .i64 f.types):=by rw [←HCF.out];rfl
   have hcf7:cf[7]? =some (.slice a2 f.params.length k2):=by rw [←HCF.out];rfl
   have hs12:cs[12]? =some (.slice S4 s.types.length s4):=by rw [←HCE.out];rfl
   have w12:W5.cell? ⟨X4,12,none⟩=some (.slice S4 s.types.length s4):=HC5.out.cell (i:=12) hs12
   have v2:W5.cell? ⟨XF,2,none⟩=some (.int .i64 f.types):=HBF.out.cell (i:=2) hcf2
   have v7:W5.cell? ⟨XF,7,none⟩=some (.slice a2 f.params.length k2):=HBF.out.cell (i:=7) hcf7
   have HSX:=Hd.mk hSx
   have hcal:calledC p s ag=(decide ((s.types.length:Int)=f.types) && sameAtL s.types f.params ag && sameAtL s.types [f.result] [s.ty]):=by
    unfold calledC
    have e1:s.code.toNat=cc:=by rw [HCC.out];omega
    rw [e1,HGF.out]
    have e2:0≤s.code:=by rw [HCC.out];omega
    have e3:s.code<p.funs.length:=by rw [HCC.out];exact h1i
    simp [e2,e3]
   have HCAL:=Hd.mk (hcal.symm.trans HR.out)
   have HFM:=Hd.mk (HP.out.funs f (List.mem_of_getElem? HGF.out))
   clear hbf hSx hcf2 hcf7 hs12 hcal hHeld hHeld2 hHeld3
   by_cases ht:(s.types.length:Int)=f.types
   ·have hFm:=HFM.out
    rw [←ht] at hFm
    have hcal2:=HCAL.out
    rw [show decide ((s.types.length:Int)=f.types)=true by simpa using ht,Bool.true_and] at hcal2
    have HCAL2:=Hd.mk hcal2
    have hc1:=sameAt_any nd q n W5 ρ p.datas f.params s.types ag a2 S4 G k2 s4 cg (hFV.params.step HSF.out) (HV.out.types.step HSX.out) (HG.out.step HSX.out) hFm.1
    obtain ⟨z1,hz1⟩:∃ z,sameAtL s.types f.params ag=z:=⟨_,rfl⟩
    rw [hz1] at hc1
    have HZ1:=Hd.mk hz1
    have HC1:=Hd.mk hc1
    have HFM2:=Hd.mk hFm.2
    have HFV:=Hd.mk hFV
    rw [←ht] at v2
    clear hc1 hz1 hcal2 hFm hFV ht
    go_wp2_with fail
    refine HC1.out.mono ?_
    rintro e W6 ⟨rfl,hb6⟩
    have HS6:=Hd.mk (Step.ofBelow ρ hb6)
    have HSX6:=Hd.mk (HSX.out.trans HS6.out)
    clear hb6 v2 v7 w12 HC1
    cases z1 with
    |false =>
     have hrr:r=false:=by rw [←HCAL2.out,HZ1.out];rfl
     subst hrr
     go_wp2
     go_ret
     exact ⟨rfl,HSX6.out.toBelow⟩
    |true =>
     have hbf6:=HS6.out.blk HBF.out (fun _ _ h=>h)
     have hbc6:=HS6.out.blk HC5.out (fun _ _ h=>h)
     have v8:W6.cell? ⟨XF,8,none⟩=some (.int .i64 f.result.kind):=hbf6.cell (i:=8) (by rw [←HCF.out];rfl)
     have v9:W6.cell? ⟨XF,9,none⟩=some (.int .i64 f.result.n):=hbf6.cell (i:=9) (by rw [←HCF.out];rfl)
     have v10:W6.cell? ⟨XF,10,none⟩=some (.string f.result.name):=hbf6.cell (i:=10) (by rw [←HCF.out];rfl)
     have v11:W6.cell? ⟨XF,11,none⟩=some (.slice a3 f.result.args.length k3):=hbf6.cell (i:=11) (by rw [←HCF.out];rfl)
     have v12:W6.cell? ⟨XF,12,none⟩=some (.int .i64 f.result.region):=hbf6.cell (i:=12) (by rw [←HCF.out];rfl)
     have v13:W6.cell? ⟨XF,13,none⟩=some (.slice a4 f.result.eff.regs.length k4):=hbf6.cell (i:=13) (by rw [←HCF.out];rfl)
     have v14:W6.cell? ⟨XF,14,none⟩=some (.slice a5 f.result.eff.vars.length k5):=hbf6.cell (i:=14) (by rw [←HCF.out];rfl)
     have w2:W6.cell? ⟨X4,2,none⟩=some (.int .i64 s.ty.kind):=hbc6.cell (i:=2) (by rw [←HCE.out];rfl)
     have w3:W6.cell? ⟨X4,3,none⟩=some (.int .i64 s.ty.n):=hbc6.cell (i:=3) (by rw [←HCE.out];rfl)
     have w4:W6.cell? ⟨X4,4,none⟩=some (.string s.ty.name):=hbc6.cell (i:=4) (by rw [←HCE.out];rfl)
     have w5:W6.cell? ⟨X4,5,none⟩=some (.slice S0 s.ty.args.length s0):=hbc6.cell (i:=5) (by rw [←HCE.out];rfl)
     have w6:W6.cell? ⟨X4,6,none⟩=some (.int .i64 s.ty.region):=hbc6.cell (i:=6) (by rw [←HCE.out];rfl)
     have w7:W6.cell? ⟨X4,7,none⟩=some (.slice S1 s.ty.eff.regs.length s1):=hbc6.cell (i:=7) (by rw [←HCE.out];rfl)
     have w8:W6.cell? ⟨X4,8,none⟩=some (.slice S2 s.ty.eff.vars.length s2):=hbc6.cell (i:=8) (by rw [←HCE.out];rfl)
     have w12:W6.cell? ⟨X4,12,none⟩=some (.slice S4 s.types.length s4):=hbc6.cell (i:=12) (by rw [←HCE.out];rfl)
     have hlF6:=hbf6.lt
     have hlC6:=hbc6.lt
     have hrr:r=sameAtL s.types [f.result] [s.ty]:=by rw [←HCAL2.out,HZ1.out,Bool.true_and]
     have HRR:=Hd.mk hrr
     clear hbf6 hbc6 hrr
     go_wp2_with fail
     have hr1:=TyR.step (HSF.out.trans HS6.out) _ HFV.out.result
     have hr2:=TyR.step HSX6.out _ HV.out.ty
     have hb7:=Blk.new' W6 #[.int .i64 f.result.kind, .int .i64 f.result.n, .string f.result.name, .slice a3 f.result.args.length k3, .int .i64 f.result.region, .slice a4 f.result.eff.regs.length k4, .slice a5 f.result.eff.vars.length k5] 43
     have hs7:=(Step.refl (fun _=>False) W6 ρ).alloc (.cells #[.int .i64 f.result.kind, .int .i64 f.result.n, .string f.result.name, .slice a3 f.result.args.length k3, .int .i64 f.result.region, .slice a4 f.result.eff.regs.length k4, .slice a5 f.result.eff.vars.length k5] 43)
     have he7:=size_alloc W6 (.cells #[.int .i64 f.result.kind, .int .i64 f.result.n, .string f.result.name, .slice a3 f.result.args.length k3, .int .i64 f.result.region, .slice a4 f.result.eff.regs.length k4, .slice a5 f.result.eff.vars.length k5] 43)
     generalize W6.alloc (.cells #[.int .i64 f.result.kind, .int .i64 f.result.n, .string f.result.name, .slice a3 f.result.args.length k3, .int .i64 f.result.region, .slice a4 f.result.eff.regs.length k4, .slice a5 f.result.eff.vars.length k5] 43)=W7 at *
     have hb8:=Blk.new' W7 #[.int .i64 s.ty.kind, .int .i64 s.ty.n, .string s.ty.name, .slice S0 s.ty.args.length s0, .int .i64 s.ty.region, .slice S1 s.ty.eff.regs.length s1, .slice S2 s.ty.eff.vars.length s2] 43
     have hs8:=(Step.refl (fun _=>False) W7 ρ).alloc (.cells #[.int .i64 s.ty.kind, .int .i64 s.ty.n, .string s.ty.name, .slice S0 s.ty.args.length s0, .int .i64 s.ty.region, .slice S1 s.ty.eff.regs.length s1, .slice S2 s.ty.eff.vars.length s2] 43)
     rw [he7] at hb8
     generalize W7.alloc (.cells #[.int .i64 s.ty.kind, .int .i64 s.ty.n, .string s.ty.name, .slice S0 s.ty.args.length s0, .int .i64 s.ty.region, .slice S1 s.ty.eff.regs.length s1, .slice S2 s.ty.eff.vars.length s2] 43)=W8 at *
     have hf6:=HSX6.out.fresh HFR.out
     have o1:=TysR.one (t:=f.result) (hs8.blk hb7 (fun _ _ h=>h)) (hf6 _ (Nat.le_refl _)) (TyR.step (hs7.trans hs8) _ hr1)
     have o2:=TysR.one (t:=s.ty) hb8 (hf6 _ (by omega)) (TyR.step (hs7.trans hs8) _ hr2)
     have hc2:=sameAt_any nd n n W8 ρ p.datas [f.result] s.types [s.ty] _ S4 _ 1 s4 1 o1 (HV.out.types.step (HSX6.out.trans (hs7.trans hs8))) o2 HFM2.out
     rw [←HRR.out] at hc2
     have HC2:=Hd.mk hc2
     have HSX8:=Hd.mk (HSX6.out.trans (hs7.trans hs8))
     clear hr1 hr2 hb7 hs7 he7 hb8 hs8 hf6 o1 o2 hc2
     refine HC2.out.mono ?_
     rintro e W9 ⟨rfl,hb9⟩
     have HS9:=Hd.mk (HSX8.out.of_below hb9)
     clear hb9
     go_wp2
     go_ret
     exact ⟨rfl,HS9.out.toBelow⟩
   ·have hrr:r=false:=by rw [←HCAL.out];simp [ht]
    subst hrr
    have htb:((s.types.length:Int) == f.types)=false:=by simpa using ht
    go_wp2
    go_ret
    exact ⟨rfl,HSX.out.toBelow⟩
  ·have h1i:¬(cc:Int)<((p.funs.length:Nat):Int):=by omega
   have h1j:((p.funs.length:Nat):Int)≤(cc:Int):=by omega
   have hrr:r=false:=by rw [←HR.out];unfold calledC;simp;omega
   subst hrr
   clear hcc
   go_quiet (skip)
   have HSQ:=Hd.mk (HS1.out.drewN nq)
   generalize W.drewN nq=Wq at *
   go_wp2
   go_ret
   exact ⟨rfl,HSQ.out.toBelow⟩
end
section
open Go Go.RowKit
def Rs.isOk {α:Type}:Rs α→Bool
 |.ok _=>true
 |_=>false
def Rs.isBig {α:Type}:Rs α→Bool
 |.big=>true
 |_=>false
def OnlyCk (ρ:Ghost):Prop:=∀ b t,ρ b=some t→t.1≠32∧t.1≠33
section
variable {ρ:Ghost} (h:OnlyCk ρ)
include ρ h
theorem OnlyCk.free (n:Nat):AtFree n ρ:=fun b i _ he=>(h b _ he).1 rfl
theorem OnlyCk.not (i:Nat):∀ b,ρ b≠some (33,i):=fun b he=>(h b _ he).2 rfl
theorem OnlyCk.put (b:Nat) {t:Tag} (h1:t.1≠32) (h2:t.1≠33):OnlyCk (ρ.put b t):=fun k u hk=>by
 unfold Ghost.put at hk
 split at hk
 ·cases hk;exact ⟨h1,h2⟩
 ·exact h k u hk
end
def Ghost.ck (ρ:Ghost):Ghost:=fun b=>match ρ b with
 |some t=>if t.1=32∨t.1=33 then none else some t
 |none=>none
theorem Ghost.ck_only (ρ:Ghost):OnlyCk ρ.ck:=fun b t h=>by
 unfold Ghost.ck at h
 split at h
 ·split at h
  ·cases h
  ·rename_i hc
   cases h
   omega
 ·cases h
theorem Ghost.ck_none {ρ:Ghost} {b:Nat} (h:ρ b=none):ρ.ck b=none:=by unfold Ghost.ck;rw [h]
theorem Ghost.ck_some' {ρ:Ghost} {b:Nat} {t:Tag} (h:ρ b=some t) (h1:t.1≠32) (h2:t.1≠33):ρ.ck b=some t:=by
 unfold Ghost.ck
 rw [h]
 simp [h1,h2]
theorem Ghost.ck_some {ρ:Ghost} {b:Nat} {t:Tag} (h:ρ b=some t) (ht:CkT t):ρ.ck b=some t:=by
 rcases ht with rfl|rfl|rfl <;> exact Ghost.ck_some' h (by decide) (by decide)
theorem Step.ck {T:Tag→Prop} {w w':World} {ρ ρ':Ghost} (hs:Step T w ρ w' ρ') (ho:OnlyCk ρ):Step T w ρ w' ρ'.ck where
 os:=hs.os
 tape:=hs.tape
 output:=hs.output
 size:=hs.size
 ghost:=fun k hk=>by
  have h:=hs.ghost k hk
  cases hr:ρ k with
  |none=>exact Ghost.ck_none (h.trans hr)
  |some t=>exact Ghost.ck_some' (h.trans hr) (ho k t hr).1 (ho k t hr).2
 block:=hs.block
 fresh:=fun f k hk=>Ghost.ck_none (hs.fresh f k hk)
theorem MapR.ghost {w:World} {ρ ρ':Ghost} {b:Nat} {l:List (Int × Ty)} (h:MapR w ρ b l) (hg:∀ b,ρ b=none→ρ' b=none) (ht:ρ' b=some (31,2)):MapR w ρ' b l:=by
 obtain ⟨D,h1,h2⟩:=h.out
 refine ⟨ht,D,h1,fun x=>?_⟩
 have h3:=h2 x
 cases hl:lookT l x with
 |none=>rw [hl] at h3;exact h3
 |some t =>
  rw [hl] at h3
  obtain ⟨cs,h4,h5,n,h6⟩:=h3
  exact ⟨cs,h4,h5,n,TyR.ghost hg n h6⟩
theorem OwnSl.ghost {w:World} {ρ ρ':Ghost} {t:Tag} {e:TypeId} {sz n:Nat} {v:Value} {xs:List Value} (h:OwnSl w ρ t e sz v n xs) (hg:∀ b,ρ b=Option.some t→ρ' b=Option.some t):OwnSl w ρ' t e sz v n xs:=by
 refine ⟨h.1,?_⟩
 rcases h.2 with h|⟨g,cap,L,h0,hr,hb⟩
 ·exact .inl h
 ·exact .inr ⟨g,cap,L,h0,hg g hr,hb⟩
theorem CkR.ck {F:Ty→Prop} {w:World} {ρ:Ghost} {C:Nat} {hd:List Value} {mb:Nat} {c:CS} {big:Bool} (h:CkR F w ρ C hd mb c big):CkR F w ρ.ck C hd mb c big:=by
 obtain ⟨sv,h1,h2⟩:=h.blk
 exact ⟨⟨sv,h1,h2.ghost (fun b hb=>Ghost.ck_some hb (.inr (.inl rfl)))⟩,h.hdl,Ghost.ck_some h.tag (.inl rfl),h.map.ghost (fun b hb=>Ghost.ck_none hb) (Ghost.ck_some h.map.tag (.inr (.inr rfl))),h.ok⟩
structure CkP (F:Ty→Prop) (w:World) (ρ:Ghost) (w':World) (ρ':Ghost) (C:Nat) (hd:List Value) (mb:Nat) (c:CS) (res:Rs CS):Prop where
 step:Step CkT w ρ w' ρ'
 only:OnlyCk ρ'
 st:∃ c',CkR F w' ρ' C hd mb c' res.isBig∧c.seen.length≤c'.seen.length∧∀ c1,res= .ok c1→c'=c1
def Rs.ofOpt {α:Type}:Option α→Rs α
 |some a=> .ok a
 |none=> .no
theorem bind_ck (F:Ty→Prop) (w:World) (ρ:Ghost) (C:Nat) (hd:List Value) (mb:Nat) (c:CS) (v:Int) (t:Ty) (B0 B1 B2:Option Addr) (k0 k1 k2:Nat) (hC:CkR F w ρ C hd mb c false) (ho:OnlyCk ρ) (hv:I64 v) (hT:TyE w ρ t (tyCells t (.slice B0 t.args.length k0) (.slice B1 t.eff.regs.length k1) (.slice B2 t.eff.vars.length k2))) (hF:F t) :
 Calls Try.prog 26 #[.pointer (some ⟨C,0,none⟩), .int .i64 v, .agg #[.int .i64 t.kind, .int .i64 t.n, .string t.name, .slice B0 t.args.length k0, .int .i64 t.region, .slice B1 t.eff.regs.length k1, .slice B2 t.eff.vars.length k2]] w fun e w' =>
  ∃ ρ',e= .returned (.bool (c.bind v t).isSome)∧CkP F w ρ w' ρ' C hd mb c (Rs.ofOpt (c.bind v t)):=by
 refine (bind_any F w ρ C hd mb c false v t B0 B1 B2 k0 k1 k2 hC hv hT hF).mono ?_
 rintro e w' ⟨ρ',rfl,hc,hs⟩
 refine ⟨ρ'.ck,rfl,hs.ck ho,Ghost.ck_only _,?_⟩
 cases hb:c.bind v t with
 |none =>
  rw [hb] at hc
  exact ⟨c,hc.ck,Nat.le_refl _,fun c1 h=>by cases h⟩
 |some c1 =>
  rw [hb] at hc
  obtain ⟨_,rfl,_⟩:=hC.ok.bind hF hb
  refine ⟨_,hc.ck,by simp,fun c2 h=>?_⟩
  cases h
  rfl
def BlockC (p:Pg) (ty:Int) (nd N:Nat):Prop:=∀ (w:World) (ρ:Ghost) (C:Nat) (hd:List Value) (mb:Nat) (c:CS) (b:Bk) (B1 B2:Option Addr) (k1 k2:Nat) (bn:List Ty) (B:Option Addr) (cb nb:Nat) (code:Int),
 CkR (fun t=>formed1 p.datas ty t=true) w ρ C hd mb c false→CkS w ρ p ty nd hd→BkR w ρ N b [.int .i64 b.code, .slice B1 b.bind.length k1, .slice B2 b.steps.length k2, .int .i64 b.value]→TysR w ρ nb (.slice B bn.length cb) bn →
 (∀ t,t ∈ bn→formed1 p.datas ty t=true)→Fresh w ρ→OnlyCk ρ→I64 code →
 Calls Try.prog 27 #[.pointer (some ⟨C,0,none⟩), .agg #[.int .i64 b.code, .slice B1 b.bind.length k1, .slice B2 b.steps.length k2, .int .i64 b.value], .slice B bn.length cb, .int .i64 code] w fun e w' =>
  ∃ ρ' t A0 A1 A2 c0 c1 c2,e= .returned (.tuple #[.agg #[.int .i64 t.kind, .int .i64 t.n, .string t.name, .slice A0 t.args.length c0, .int .i64 t.region, .slice A1 t.eff.regs.length c1, .slice A2 t.eff.vars.length c2], .bool (blockC p ty c bn code b).isOk]) ∧
   TyE w' ρ' t (tyCells t (.slice A0 t.args.length c0) (.slice A1 t.eff.regs.length c1) (.slice A2 t.eff.vars.length c2))∧(∀ r,blockC p ty c bn code b= .ok r→t=r.2∧formed1 p.datas ty t=true) ∧
   CkP (fun t=>formed1 p.datas ty t=true) w ρ w' ρ' C hd mb c ((blockC p ty c bn code b).andThen fun r=> .ok r.1)
def LtsR (w:World) (ρ:Ghost) (n:Nat) (v:Value) (l:List (List Ty)):Prop:=SlR w ρ 1 24 (fun x cs=>∃ A c,cs=[.slice A x.length c]∧TysR w ρ n (.slice A x.length c) x) v l
theorem LtsR.step {T:Tag→Prop} {w w':World} {ρ ρ':Ghost} {n:Nat} {v:Value} {l:List (List Ty)} (h:LtsR w ρ n v l) (hs:Step T w ρ w' ρ'):LtsR w' ρ' n v l :=
 SlR.step h hs (fun x cs _ ⟨A,c,h1,h2⟩=>⟨A,c,h1,h2.step hs⟩)
end
end Go.Proofs.Ytadffbgbndibpaa
