/- FlF, FlG, FlH, FlI: lemmas and walks of the claim. -/
import Derived.Test.YtadffbgbndibpaaKFlE
set_option linter.unusedVariables false
set_option linter.unusedSimpArgs false
set_option maxHeartbeats 16000000
set_option maxRecDepth 100000
namespace Go.Proofs.Ytadffbgbndibpaa
section
open Go Go.RowKit
theorem Within_any (n:Nat) (w:World) (ρ:Ghost) (p:Pg) (v1 v2 v3:Value) (most:Int) (hR:PgR w ρ n p [v1,v2,v3, .int .i64 p.main]) (h1:0≤most) (h2:most≤800) :
 Calls Try.prog 10 #[.agg #[v1,v2,v3, .int .i64 p.main], .int .i64 most] w fun e w'=>e= .returned (.bool (withinP p most))∧Below w.heap.size w w':=by
 obtain ⟨v1',v2',v3',hcs,_,hT1,hT2,hT3⟩:=hR
 simp only [List.cons.injEq,and_true,true_and] at hcs
 obtain ⟨rfl,rfl,rfl⟩:=hcs
 have hT1:DatsR w ρ n v1 p.datas:=hT1
 have hT3:FusR w ρ n v3 p.funs:=hT3
 obtain ⟨A1,c1,rfl,hlc1,hcm1⟩:=SlR.form hT1
 obtain ⟨A2,c2,rfl,_,_⟩:=SlR.form hT2
 obtain ⟨A3,c3,rfl,hlc3,hcm3⟩:=SlR.form hT3
 have hlen1:p.datas.length≤9223372036854775807:=by unfold maxLen at hcm1;omega
 have hlen3:p.funs.length≤9223372036854775807:=by unfold maxLen at hcm3;omega
 have HT1:=Hd.mk hT1
 have HT3:=Hd.mk hT3
 clear hT1 hT2 hT3 hlc1 hcm1 hlc3 hcm3
 obtain ⟨pm,hpm⟩:∃ z,p.main=z:=⟨_,rfl⟩
 rw [hpm]
 clear hpm
 have HS0:=Hd.mk ((Step.refl (fun _=>False) w ρ).alloc (.cells #[.slice A1 p.datas.length c1, .slice A2 p.exns.length c2, .slice A3 p.funs.length c3, .int .i64 pm] 26))
 have X:=Hd.mk (Blk.new' w #[.slice A1 p.datas.length c1, .slice A2 p.exns.length c2, .slice A3 p.funs.length c3, .int .i64 pm] 26)
 go_enter Try.func10,Try.ntmps10
 go_wp2_with fail
 generalize w.alloc (.cells #[.slice A1 p.datas.length c1, .slice A2 p.exns.length c2, .slice A3 p.funs.length c3, .int .i64 pm] 26)=W at *
 generalize w.heap.size=Xb at *
 go_loopw [5,6] (fun vl vk wr=>∃ (k:Nat) (lf:Int),vk= .int .i64 k∧vl= .int .i64 lf∧k≤p.datas.length∧leftDs most p.datas=leftDs lf (p.datas.drop k)∧ -2≤lf∧lf≤800∧Step (fun _=>False) W ρ wr ρ) (fun _ v _=>p.datas.length-(intOf v).toNat)
 case atStart=>exact ⟨0,most,by simp,rfl,by omega,by simp,by omega,by omega,Step.refl _ _ _⟩
 case round =>
  obtain ⟨k,lf,rfl,rfl,hk,he,hb1,hb2,hS⟩:=hrel
  have HE:=Hd.mk he
  have HS:=Hd.mk hS
  have x0:=(hS.blk X.out (fun _ _ h=>h)).cell (i:=0) rfl
  clear he hS
  by_cases hlt:k<p.datas.length
  ·by_cases hneg:lf<0
   ·have hfin:=HE.out
    rw [leftDs_neg _ _ hneg] at hfin
    have HGL:=Hd.mk hfin
    have HXq:=Hd.mk (HS.out.blk X.out (fun _ _ h=>h))
    have HSq:=Hd.mk HS.out
    have HD:=Hd.mk hk
    obtain ⟨lg,hlg⟩:∃ z:Int,z=lf:=⟨_,rfl⟩
    subst hlg
    clear hfin HE HS hk
    generalize wr=Wq at *
    clear HD
    have x2:=HXq.out.cell (i:=2) rfl
    go_wp2_with fail
    go_loopw [5,7] (fun vl vk wr=>∃ (k:Nat) (lf:Int),vk= .int .i64 k∧vl= .int .i64 lf∧k≤p.funs.length∧leftFs lg p.funs=leftFs lf (p.funs.drop k)∧ -2≤lf∧lf≤800∧Step (fun _=>False) Wq ρ wr ρ) (fun _ v _=>p.funs.length-(intOf v).toNat)
    case atStart=>exact ⟨0,lg,by simp,rfl,by omega,by simp,by omega,by omega,Step.refl _ _ _⟩
    case round =>
     obtain ⟨k,lf,rfl,rfl,hk,he,hb1,hb2,hS⟩:=hrel
     have HE:=Hd.mk he
     have HS:=Hd.mk hS
     have y2:=(hS.blk HXq.out (fun _ _ h=>h)).cell (i:=2) rfl
     clear he hS x2
     by_cases hlt:k<p.funs.length
     ·by_cases hneg:lf<0
      ·have hfin:=HE.out
       rw [leftFs_neg _ _ hneg] at hfin
       have HF:=Hd.mk hfin
       clear hfin
       go_wp2
       go_ret
       refine ⟨?_,((HS0.out.trans HSq.out).trans HS.out).toBelow⟩
       unfold withinP
       rw [HGL.out,HF.out]
       first|rfl|(have h0:¬0≤lf:=by omega
                  simp [h0,hneg])
      ·obtain ⟨b,o,e1,e2,vp,va0,r1,r2,vb,vs,hA,hV,hc⟩:=(HT3.out.step ((HS0.out.trans HSq.out).trans HS.out)).elem (List.getElem?_eq_getElem hlt)
       subst hA
       have hd:=drop_cons (List.getElem?_eq_getElem hlt)
       generalize p.funs[k]=f at *
       obtain ⟨_,_,_,_,_,hty,_,_,_,_,hy0,hy1,hy2⟩:=TyR.shape hV.result
       simp only [List.cons.injEq,and_true,true_and] at hty
       obtain ⟨rfl,rfl,rfl⟩:=hty
       obtain ⟨_,_,_,_,hbd,_,_,hy5,hy6⟩:=BkR.shape hV.body
       simp only [List.cons.injEq,and_true,true_and] at hbd
       obtain ⟨rfl,rfl⟩:=hbd
       have hy3:=hV.t1
       have hy4:=hV.t2
       have hy7:=hV.params
       obtain ⟨a0,k0,rfl,hl0,hm0⟩:=SlR.form hy3
       obtain ⟨a1,k1,rfl,hl1,hm1⟩:=SlR.form hy4
       obtain ⟨a2,k2,rfl,hl2,hm2⟩:=SlR.form hy7
       obtain ⟨a3,k3,rfl,hl3,hm3⟩:=SlR.form hy0
       obtain ⟨a4,k4,rfl,hl4,hm4⟩:=SlR.form hy1
       obtain ⟨a5,k5,rfl,hl5,hm5⟩:=SlR.form hy2
       obtain ⟨a6,k6,rfl,hl6,hm6⟩:=SlR.form hy5
       obtain ⟨a7,k7,rfl,hl7,hm7⟩:=SlR.form hy6
       clear hy0 hy1 hy2 hy3 hy4 hy5 hy6 hy7 hl0 hm0 hl1 hm1 hl2 hm2 hl3 hm3 hl4 hm4 hl5 hm5 hl6 hm6 hl7 hm7
       have HV:=Hd.mk hV
       have hE:=HE.out
       rw [hd,leftFs,if_neg hneg] at hE
       have HE2:=Hd.mk hE
       have hle:=leftF_le lf f
       have hle1:=leftF1_le lf f
       have hle2:=leftTs_le (lf-1) f.params
       unfold leftF1 at hle1
       have hin:(Try.prog.info? 48).map (·.size)=some 19:=by kernel_rfl
       generalize hcs:fuCells f _ _ _ _ _ _ _ _=cs at hc
       have hcl:cs.length=19:=by rw [←hcs];rfl
       have hone:cs.toArray.all (·.oneCell')=true:=by rw [←hcs];exact fuCells_one ..
       have hin2:(Try.prog.info? 48).map (·.size)=some cs.length:=by rw [hcl];exact hin
       have HSZ:Hd (cs.toArray.size=19):=⟨by rw [List.size_toArray,hcl]⟩
       have HCC:Hd (wr.rangeAt b (o+k*19) cs):=⟨hc⟩
       have HIN:=Hd.mk hin2
       have HON:=Hd.mk hone
       have HS1:=Hd.mk ((Step.refl (fun _=>False) wr ρ).alloc (.cells cs.toArray 48))
       have XS0:=Hd.mk (Blk.new' wr cs.toArray 48)
       have HCS:=Hd.mk hcs
       clear hc hd hE HE hV hin hone hcs hin2
       go_wp2_with (first|(refine wpList_load_mid rfl 48 _ rfl b (o+k*19) rfl cs _ HCC.out Try.underlying48 rfl HIN.out ?_)|(refine wpList_store_new rfl 48 _ _ rfl _ cs.toArray rfl rfl (by rw [List.size_toArray];exact HIN.out) (Eq.trans rfl HSZ.out.symm) HON.out ?_))
       generalize wr.alloc (.cells cs.toArray 48)=W1 at *
       generalize wr.heap.size=Xs at *
       clear y2
       have HSd:=Hd.mk (HS1.out.drew)
       have HVd:=Hd.mk (HV.out.step HS1.out.drew)
       have xs0:Blk W1.drew Xs 48 cs:=XS0.out
       rw [←HCS.out] at xs0
       have XS:=Hd.mk xs0
       clear xs0
       have d6:W1.drew.cell? ⟨Xs,6,none⟩=some (.slice a1 f.touch.vars.length k1):=XS.out.cell (i:=6) rfl
       have d7:W1.drew.cell? ⟨Xs,7,none⟩=some (.slice a2 f.params.length k2):=XS.out.cell (i:=7) rfl
       have d8:W1.drew.cell? ⟨Xs,8,none⟩=some (.int .i64 f.result.kind):=XS.out.cell (i:=8) rfl
       have d9:W1.drew.cell? ⟨Xs,9,none⟩=some (.int .i64 f.result.n):=XS.out.cell (i:=9) rfl
       have d10:W1.drew.cell? ⟨Xs,10,none⟩=some (.string f.result.name):=XS.out.cell (i:=10) rfl
       have d11:W1.drew.cell? ⟨Xs,11,none⟩=some (.slice a3 f.result.args.length k3):=XS.out.cell (i:=11) rfl
       have d12:W1.drew.cell? ⟨Xs,12,none⟩=some (.int .i64 f.result.region):=XS.out.cell (i:=12) rfl
       have d13:W1.drew.cell? ⟨Xs,13,none⟩=some (.slice a4 f.result.eff.regs.length k4):=XS.out.cell (i:=13) rfl
       have d14:W1.drew.cell? ⟨Xs,14,none⟩=some (.slice a5 f.result.eff.vars.length k5):=XS.out.cell (i:=14) rfl
       have hbA: -1000≤leftTs (lf-1) f.params:=by omega
       have hbB:leftTs (lf-1) f.params≤1000:=by omega
       have hc1:=TypesLeft_any n W1.drew ρ f.params _ _ (lf-1) HVd.out.params (by omega) (by omega)
       have hc2:∀ W',Step (fun _=>False) wr ρ W' ρ→Calls Try.prog 18 #[.agg #[.int .i64 f.result.kind, .int .i64 f.result.n, .string f.result.name, .slice a3 f.result.args.length k3, .int .i64 f.result.region, .slice a4 f.result.eff.regs.length k4, .slice a5 f.result.eff.vars.length k5], .int .i64 (leftTs (lf-1) f.params)] W' fun e w'=>e= .returned (.int .i64 (leftT (leftTs (lf-1) f.params) f.result))∧Below W'.heap.size W' w':=fun W' hs=>typeLeft_any n W' ρ f.result _ _ _ _ (TyR.step hs n HV.out.result) hbA hbB
       unfold leftF leftF1 at hle
       have hE2:=HE2.out
       unfold leftF leftF1 at hE2
       obtain ⟨z2,hz2⟩:∃ z,leftT (leftTs (lf-1) f.params) f.result=z:=⟨_,rfl⟩
       rw [hz2] at hle hle1 hE2 hc2
       obtain ⟨z1,hz1⟩:∃ z,leftTs (lf-1) f.params=z:=⟨_,rfl⟩
       rw [hz1] at hc1 hc2 hle2
       have HC1:=Hd.mk hc1
       have HC2:=Hd.mk hc2
       have HE3:=Hd.mk hE2
       have HLE:=Hd.mk hle
       clear hc1 hc2 hz1 hz2 hbA hbB hE2 HE2 hle
       have ewr:IntKind.i64.wrap (lf-1)=lf-1:=IntWalk.i64_in _ (by omega)
       go_region_held3 (fun wv=>wv.cell? ⟨Xs,6,none⟩=some (.slice a1 f.touch.vars.length k1)∧wv.cell? ⟨Xs,7,none⟩=some (.slice a2 f.params.length k2)∧wv.cell? ⟨Xs,8,none⟩=some (.int .i64 f.result.kind)∧wv.cell? ⟨Xs,9,none⟩=some (.int .i64 f.result.n)∧wv.cell? ⟨Xs,10,none⟩=some (.string f.result.name)∧wv.cell? ⟨Xs,11,none⟩=some (.slice a3 f.result.args.length k3)∧wv.cell? ⟨Xs,12,none⟩=some (.int .i64 f.result.region)∧wv.cell? ⟨Xs,13,none⟩=some (.slice a4 f.result.eff.regs.length k4)∧wv.cell? ⟨Xs,14,none⟩=some (.slice a5 f.result.eff.vars.length k5)) (first|assumption|(refine ⟨?_,?_,?_,?_,?_,?_,?_,?_,?_⟩ <;> assumption)) (first|(go_at_call 19;refine HC1.out.mono ?_;rintro e W5 ⟨rfl,hb⟩;have hs5:=(Step.refl (fun _=>False) W1.drew ρ).of_below hb;have HS5:=Hd.mk (HSd.out.of_below hb);have XS5:=Hd.mk (hs5.blk XS.out (fun _ _ h=>h));have f6:=XS5.out.cell (i:=6) rfl;have f7:=XS5.out.cell (i:=7) rfl;have f8:=XS5.out.cell (i:=8) rfl;have f9:=XS5.out.cell (i:=9) rfl;have f10:=XS5.out.cell (i:=10) rfl;have f11:=XS5.out.cell (i:=11) rfl;have f12:=XS5.out.cell (i:=12) rfl;have f13:=XS5.out.cell (i:=13) rfl;have f14:=XS5.out.cell (i:=14) rfl;clear hs5 hb)|(go_at_call 18;refine (HC2.out W5 HS5.out).mono ?_;rintro e W6 ⟨rfl,hb⟩;have hs5:=(Step.refl (fun _=>False) W5 ρ).of_below hb;have HS6:=Hd.mk (HS5.out.of_below hb);have XS6:=Hd.mk (hs5.blk XS5.out (fun _ _ h=>h));have g6:=XS6.out.cell (i:=6) rfl;have g7:=XS6.out.cell (i:=7) rfl;have g8:=XS6.out.cell (i:=8) rfl;have g9:=XS6.out.cell (i:=9) rfl;have g10:=XS6.out.cell (i:=10) rfl;have g11:=XS6.out.cell (i:=11) rfl;have g12:=XS6.out.cell (i:=12) rfl;have g13:=XS6.out.cell (i:=13) rfl;have g14:=XS6.out.cell (i:=14) rfl;clear hs5 hb))
       clear d6 f6 g6 d7 f7 g7 d8 f8 g8 d9 f9 g9 d10 f10 g10 d11 f11 g11 d12 f12 g12 d13 f13 g13 d14 f14 g14 HC1 HC2
       have g15:=XS6.out.cell (i:=15) rfl
       have g16:=XS6.out.cell (i:=16) rfl
       have g17:=XS6.out.cell (i:=17) rfl
       have g18:=XS6.out.cell (i:=18) rfl
       by_cases hz0:z2<0
       ·have hle3:=HLE.out
        have hE3:=HE3.out
        rw [if_pos hz0] at hle3 hE3
        have HE4:=Hd.mk hE3
        clear hE3
        go_wp2
        go_roundw
        case rel=>exact ⟨k+1,z2,by go_num,rfl,by omega,HE4.out,by omega,by omega,HS.out.trans HS6.out⟩
        case measure=>simp [intOf];omega
       ·have hle3:=HLE.out
        have hE3:=HE3.out
        rw [if_neg hz0] at hle3 hE3
        have hc3:=blockLeft_any n W6 ρ f.body _ _ z2 (HV.out.step HS6.out).body (by omega) (by omega)
        obtain ⟨z3,hz3⟩:∃ z,leftB z2 f.body=z:=⟨_,rfl⟩
        rw [hz3] at hle3 hE3 hc3
        have HE4:=Hd.mk hE3
        have HC3:=Hd.mk hc3
        clear hE3 hc3 hz3
        go_wp2_with fail
        refine HC3.out.mono ?_
        rintro e w8 ⟨rfl,hb⟩
        have HS8:=Hd.mk (HS6.out.of_below hb)
        clear g15 g16 g17 g18 hb HC3
        go_wp2
        go_roundw
        case rel=>exact ⟨k+1,z3,by go_num,rfl,by omega,HE4.out,by omega,by omega,HS.out.trans HS8.out⟩
        case measure=>simp [intOf];omega
     ·have hke:k=p.funs.length:=by omega
      subst hke
      have hfin:=HE.out
      rw [List.drop_length,leftFs] at hfin
      have HF:=Hd.mk hfin
      clear hfin
      go_wp2
      go_ret
      refine ⟨?_,((HS0.out.trans HSq.out).trans HS.out).toBelow⟩
      unfold withinP
      rw [HGL.out,HF.out]
      first|rfl|simp
   ·obtain ⟨b,o,A4,c4,A5,c5,hA,_,hT,_,_,q2⟩:=(HT1.out.step (HS0.out.trans HS.out)).elem (List.getElem?_eq_getElem hlt)
    subst hA
    have hd:=drop_cons (List.getElem?_eq_getElem hlt)
    generalize p.datas[k]=t at *
    have hc:=consLeft_any n wr ρ t.cons A5 c5 lf hT (by omega) (by omega)
    have hle:=leftCs_le lf t.cons
    have hE:=HE.out
    rw [hd,leftDs,if_neg hneg] at hE
    obtain ⟨z,hz⟩:∃ z,leftCs lf t.cons=z:=⟨_,rfl⟩
    rw [hz] at hc hle hE
    have HE2:=Hd.mk hE
    have HC:=Hd.mk hc
    clear hT hd hE HE hc hz
    go_wp2_with fail
    refine HC.out.mono ?_
    rintro e w5 ⟨rfl,hb⟩
    have HS5:=Hd.mk (HS.out.of_below hb)
    clear q2 x0 hb HC
    go_wp2
    go_roundw
    case rel=>exact ⟨k+1,z,by go_num,rfl,by omega,HE2.out,by omega,by omega,HS5.out⟩
    case measure=>simp [intOf];omega
  ·have hke:k=p.datas.length:=by omega
   subst hke
   have hfin:=HE.out
   rw [List.drop_length,leftDs] at hfin
   have HGL:=Hd.mk hfin
   have HXq:=Hd.mk (HS.out.blk X.out (fun _ _ h=>h))
   have HSq:=Hd.mk HS.out
   have HD:=Hd.mk hk
   obtain ⟨lg,hlg⟩:∃ z:Int,z=lf:=⟨_,rfl⟩
   subst hlg
   clear hfin HE HS hk
   generalize wr=Wq at *
   clear HD
   have x2:=HXq.out.cell (i:=2) rfl
   go_wp2_with fail
   go_loopw [5,7] (fun vl vk wr=>∃ (k:Nat) (lf:Int),vk= .int .i64 k∧vl= .int .i64 lf∧k≤p.funs.length∧leftFs lg p.funs=leftFs lf (p.funs.drop k)∧ -2≤lf∧lf≤800∧Step (fun _=>False) Wq ρ wr ρ) (fun _ v _=>p.funs.length-(intOf v).toNat)
   case atStart=>exact ⟨0,lg,by simp,rfl,by omega,by simp,by omega,by omega,Step.refl _ _ _⟩
   case round =>
    obtain ⟨k,lf,rfl,rfl,hk,he,hb1,hb2,hS⟩:=hrel
    have HE:=Hd.mk he
    have HS:=Hd.mk hS
    have y2:=(hS.blk HXq.out (fun _ _ h=>h)).cell (i:=2) rfl
    clear he hS x2
    by_cases hlt:k<p.funs.length
    ·by_cases hneg:lf<0
     ·have hfin:=HE.out
      rw [leftFs_neg _ _ hneg] at hfin
      have HF:=Hd.mk hfin
      clear hfin
      go_wp2
      go_ret
      refine ⟨?_,((HS0.out.trans HSq.out).trans HS.out).toBelow⟩
      unfold withinP
      rw [HGL.out,HF.out]
      first|rfl|(have h0:¬0≤lf:=by omega
                 simp [h0,hneg])
     ·obtain ⟨b,o,e1,e2,vp,va0,r1,r2,vb,vs,hA,hV,hc⟩:=(HT3.out.step ((HS0.out.trans HSq.out).trans HS.out)).elem (List.getElem?_eq_getElem hlt)
      subst hA
      have hd:=drop_cons (List.getElem?_eq_getElem hlt)
      generalize p.funs[k]=f at *
      obtain ⟨_,_,_,_,_,hty,_,_,_,_,hy0,hy1,hy2⟩:=TyR.shape hV.result
      simp only [List.cons.injEq,and_true,true_and] at hty
      obtain ⟨rfl,rfl,rfl⟩:=hty
      obtain ⟨_,_,_,_,hbd,_,_,hy5,hy6⟩:=BkR.shape hV.body
      simp only [List.cons.injEq,and_true,true_and] at hbd
      obtain ⟨rfl,rfl⟩:=hbd
      have hy3:=hV.t1
      have hy4:=hV.t2
      have hy7:=hV.params
      obtain ⟨a0,k0,rfl,hl0,hm0⟩:=SlR.form hy3
      obtain ⟨a1,k1,rfl,hl1,hm1⟩:=SlR.form hy4
      obtain ⟨a2,k2,rfl,hl2,hm2⟩:=SlR.form hy7
      obtain ⟨a3,k3,rfl,hl3,hm3⟩:=SlR.form hy0
      obtain ⟨a4,k4,rfl,hl4,hm4⟩:=SlR.form hy1
      obtain ⟨a5,k5,rfl,hl5,hm5⟩:=SlR.form hy2
      obtain ⟨a6,k6,rfl,hl6,hm6⟩:=SlR.form hy5
      obtain ⟨a7,k7,rfl,hl7,hm7⟩:=SlR.form hy6
      clear hy0 hy1 hy2 hy3 hy4 hy5 hy6 hy7 hl0 hm0 hl1 hm1 hl2 hm2 hl3 hm3 hl4 hm4 hl5 hm5 hl6 hm6 hl7 hm7
      have HV:=Hd.mk hV
      have hE:=HE.out
      rw [hd,leftFs,if_neg hneg] at hE
      have HE2:=Hd.mk hE
      have hle:=leftF_le lf f
      have hle1:=leftF1_le lf f
      have hle2:=leftTs_le (lf-1) f.params
      unfold leftF1 at hle1
      have hin:(Try.prog.info? 48).map (·.size)=some 19:=by kernel_rfl
      generalize hcs:fuCells f _ _ _ _ _ _ _ _=cs at hc
      have hcl:cs.length=19:=by rw [←hcs];rfl
      have hone:cs.toArray.all (·.oneCell')=true:=by rw [←hcs];exact fuCells_one ..
      have hin2:(Try.prog.info? 48).map (·.size)=some cs.length:=by rw [hcl];exact hin
      have HSZ:Hd (cs.toArray.size=19):=⟨by rw [List.size_toArray,hcl]⟩
      have HCC:Hd (wr.rangeAt b (o+k*19) cs):=⟨hc⟩
      have HIN:=Hd.mk hin2
      have HON:=Hd.mk hone
      have HS1:=Hd.mk ((Step.refl (fun _=>False) wr ρ).alloc (.cells cs.toArray 48))
      have XS0:=Hd.mk (Blk.new' wr cs.toArray 48)
      have HCS:=Hd.mk hcs
      clear hc hd hE HE hV hin hone hcs hin2
      go_wp2_with (first|(refine wpList_load_mid rfl 48 _ rfl b (o+k*19) rfl cs _ HCC.out Try.underlying48 rfl HIN.out ?_)|(refine wpList_store_new rfl 48 _ _ rfl _ cs.toArray rfl rfl (by rw [List.size_toArray];exact HIN.out) (Eq.trans rfl HSZ.out.symm) HON.out ?_))
      generalize wr.alloc (.cells cs.toArray 48)=W1 at *
      generalize wr.heap.size=Xs at *
      clear y2
      have HSd:=Hd.mk (HS1.out.drew)
      have HVd:=Hd.mk (HV.out.step HS1.out.drew)
      have xs0:Blk W1.drew Xs 48 cs:=XS0.out
      rw [←HCS.out] at xs0
      have XS:=Hd.mk xs0
      clear xs0
      have d6:W1.drew.cell? ⟨Xs,6,none⟩=some (.slice a1 f.touch.vars.length k1):=XS.out.cell (i:=6) rfl
      have d7:W1.drew.cell? ⟨Xs,7,none⟩=some (.slice a2 f.params.length k2):=XS.out.cell (i:=7) rfl
      have d8:W1.drew.cell? ⟨Xs,8,none⟩=some (.int .i64 f.result.kind):=XS.out.cell (i:=8) rfl
      have d9:W1.drew.cell? ⟨Xs,9,none⟩=some (.int .i64 f.result.n):=XS.out.cell (i:=9) rfl
      have d10:W1.drew.cell? ⟨Xs,10,none⟩=some (.string f.result.name):=XS.out.cell (i:=10) rfl
      have d11:W1.drew.cell? ⟨Xs,11,none⟩=some (.slice a3 f.result.args.length k3):=XS.out.cell (i:=11) rfl
      have d12:W1.drew.cell? ⟨Xs,12,none⟩=some (.int .i64 f.result.region):=XS.out.cell (i:=12) rfl
      have d13:W1.drew.cell? ⟨Xs,13,none⟩=some (.slice a4 f.result.eff.regs.length k4):=XS.out.cell (i:=13) rfl
      have d14:W1.drew.cell? ⟨Xs,14,none⟩=some (.slice a5 f.result.eff.vars.length k5):=XS.out.cell (i:=14) rfl
      have hbA: -1000≤leftTs (lf-1) f.params:=by omega
      have hbB:leftTs (lf-1) f.params≤1000:=by omega
      have hc1:=TypesLeft_any n W1.drew ρ f.params _ _ (lf-1) HVd.out.params (by omega) (by omega)
      have hc2:∀ W',Step (fun _=>False) wr ρ W' ρ→Calls Try.prog 18 #[.agg #[.int .i64 f.result.kind, .int .i64 f.result.n, .string f.result.name, .slice a3 f.result.args.length k3, .int .i64 f.result.region, .slice a4 f.result.eff.regs.length k4, .slice a5 f.result.eff.vars.length k5], .int .i64 (leftTs (lf-1) f.params)] W' fun e w'=>e= .returned (.int .i64 (leftT (leftTs (lf-1) f.params) f.result))∧Below W'.heap.size W' w':=fun W' hs=>typeLeft_any n W' ρ f.result _ _ _ _ (TyR.step hs n HV.out.result) hbA hbB
      unfold leftF leftF1 at hle
      have hE2:=HE2.out
      unfold leftF leftF1 at hE2
      obtain ⟨z2,hz2⟩:∃ z,leftT (leftTs (lf-1) f.params) f.result=z:=⟨_,rfl⟩
      rw [hz2] at hle hle1 hE2 hc2
      obtain ⟨z1,hz1⟩:∃ z,leftTs (lf-1) f.params=z:=⟨_,rfl⟩
      rw [hz1] at hc1 hc2 hle2
      have HC1:=Hd.mk hc1
      have HC2:=Hd.mk hc2
      have HE3:=Hd.mk hE2
      have HLE:=Hd.mk hle
      clear hc1 hc2 hz1 hz2 hbA hbB hE2 HE2 hle
      have ewr:IntKind.i64.wrap (lf-1)=lf-1:=IntWalk.i64_in _ (by omega)
      go_region_held3 (fun wv=>wv.cell? ⟨Xs,6,none⟩=some (.slice a1 f.touch.vars.length k1)∧wv.cell? ⟨Xs,7,none⟩=some (.slice a2 f.params.length k2)∧wv.cell? ⟨Xs,8,none⟩=some (.int .i64 f.result.kind)∧wv.cell? ⟨Xs,9,none⟩=some (.int .i64 f.result.n)∧wv.cell? ⟨Xs,10,none⟩=some (.string f.result.name)∧wv.cell? ⟨Xs,11,none⟩=some (.slice a3 f.result.args.length k3)∧wv.cell? ⟨Xs,12,none⟩=some (.int .i64 f.result.region)∧wv.cell? ⟨Xs,13,none⟩=some (.slice a4 f.result.eff.regs.length k4)∧wv.cell? ⟨Xs,14,none⟩=some (.slice a5 f.result.eff.vars.length k5)) (first|assumption|(refine ⟨?_,?_,?_,?_,?_,?_,?_,?_,?_⟩ <;> assumption)) (first|(go_at_call 19;refine HC1.out.mono ?_;rintro e W5 ⟨rfl,hb⟩;have hs5:=(Step.refl (fun _=>False) W1.drew ρ).of_below hb;have HS5:=Hd.mk (HSd.out.of_below hb);have XS5:=Hd.mk (hs5.blk XS.out (fun _ _ h=>h));have f6:=XS5.out.cell (i:=6) rfl;have f7:=XS5.out.cell (i:=7) rfl;have f8:=XS5.out.cell (i:=8) rfl;have f9:=XS5.out.cell (i:=9) rfl;have f10:=XS5.out.cell (i:=10) rfl;have f11:=XS5.out.cell (i:=11) rfl;have f12:=XS5.out.cell (i:=12) rfl;have f13:=XS5.out.cell (i:=13) rfl;have f14:=XS5.out.cell (i:=14) rfl;clear hs5 hb)|(go_at_call 18;refine (HC2.out W5 HS5.out).mono ?_;rintro e W6 ⟨rfl,hb⟩;have hs5:=(Step.refl (fun _=>False) W5 ρ).of_below hb;have HS6:=Hd.mk (HS5.out.of_below hb);have XS6:=Hd.mk (hs5.blk XS5.out (fun _ _ h=>h));have g6:=XS6.out.cell (i:=6) rfl;have g7:=XS6.out.cell (i:=7) rfl;have g8:=XS6.out.cell (i:=8) rfl;have g9:=XS6.out.cell (i:=9) rfl;have g10:=XS6.out.cell (i:=10) rfl;have g11:=XS6.out.cell (i:=11) rfl;have g12:=XS6.out.cell (i:=12) rfl;have g13:=XS6.out.cell (i:=13) rfl;have g14:=XS6.out.cell (i:=14) rfl;clear hs5 hb))
      clear d6 f6 g6 d7 f7 g7 d8 f8 g8 d9 f9 g9 d10 f10 g10 d11 f11 g11 d12 f12 g12 d13 f13 g13 d14 f14 g14 HC1 HC2
      have g15:=XS6.out.cell (i:=15) rfl
      have g16:=XS6.out.cell (i:=16) rfl
      have g17:=XS6.out.cell (i:=17) rfl
      have g18:=XS6.out.cell (i:=18) rfl
      by_cases hz0:z2<0
      ·have hle3:=HLE.out
       have hE3:=HE3.out
       rw [if_pos hz0] at hle3 hE3
       have HE4:=Hd.mk hE3
       clear hE3
       go_wp2
       go_roundw
       case rel=>exact ⟨k+1,z2,by go_num,rfl,by omega,HE4.out,by omega,by omega,HS.out.trans HS6.out⟩
       case measure=>simp [intOf];omega
      ·have hle3:=HLE.out
       have hE3:=HE3.out
       rw [if_neg hz0] at hle3 hE3
       have hc3:=blockLeft_any n W6 ρ f.body _ _ z2 (HV.out.step HS6.out).body (by omega) (by omega)
       obtain ⟨z3,hz3⟩:∃ z,leftB z2 f.body=z:=⟨_,rfl⟩
       rw [hz3] at hle3 hE3 hc3
       have HE4:=Hd.mk hE3
       have HC3:=Hd.mk hc3
       clear hE3 hc3 hz3
       go_wp2_with fail
       refine HC3.out.mono ?_
       rintro e w8 ⟨rfl,hb⟩
       have HS8:=Hd.mk (HS6.out.of_below hb)
       clear g15 g16 g17 g18 hb HC3
       go_wp2
       go_roundw
       case rel=>exact ⟨k+1,z3,by go_num,rfl,by omega,HE4.out,by omega,by omega,HS.out.trans HS8.out⟩
       case measure=>simp [intOf];omega
    ·have hke:k=p.funs.length:=by omega
     subst hke
     have hfin:=HE.out
     rw [List.drop_length,leftFs] at hfin
     have HF:=Hd.mk hfin
     clear hfin
     go_wp2
     go_ret
     refine ⟨?_,((HS0.out.trans HSq.out).trans HS.out).toBelow⟩
     unfold withinP
     rw [HGL.out,HF.out]
     first|rfl|simp
end
section
open Go Go.RowKit
mutual
def szT:Ty→Nat
 |.mk _ _ _ args _ _=>1+szTs args
def szTs:List Ty→Nat
 |[]=>0
 |t :: l=>szT t+szTs l
end
mutual
def szB:Bk→Nat
 |.mk _ _ steps _=>1+szSs steps
def szSs:List St→Nat
 |[]=>0
 |s :: l=>szS s+szSs l
def szS:St→Nat
 |.mk _ _ ty _ _ _ types _ _ _ _ _ blocks=>1+szT ty+szTs types+szBs blocks
def szBs:List Bk→Nat
 |[]=>0
 |b :: l=>szB b+szBs l
end
theorem szT_eq (t:Ty):szT t=1+szTs t.args:=by cases t;rfl
theorem szB_eq (b:Bk):szB b=1+szSs b.steps:=by cases b;rfl
theorem szS_eq (s:St):szS s=1+szT s.ty+szTs s.types+szBs s.blocks:=by cases s;rfl
theorem mTy_eq (m:Mt) (d:Nat) (t:Ty):mTy m d t=mTys m d t.args:=by cases t;rfl
theorem mBk_eq (m:Mt) (d:Nat) (b:Bk):mBk m d b=if (m.node d).big then m.node d else mSts (m.node d) d b.steps:=by cases b;rfl
theorem mSt_eq (m:Mt) (d:Nat) (s:St):mSt m d s=mBks (mTys (mTys m 1 [s.ty]) 1 s.types) (d+1) s.blocks:=by cases s;rfl
mutual
theorem mTy_le (m:Mt) (d:Nat):∀ t:Ty,(mTy m d t).nodes+1≤m.nodes+szT t
 |.mk _ _ _ args _ _=>by
  have:=mTys_le m d args
  rw [mTy,szT]
  omega
theorem mTys_le (m:Mt) (d:Nat):∀ l:List Ty,(mTys m d l).nodes≤m.nodes+szTs l
 |[]=>by rw [mTys];omega
 |t :: l=>by
  have h1:=mTy_le (m.node d) (d+1) t
  have h2:=mTys_le (mTy (m.node d) (d+1) t) d l
  have h3:(m.node d).nodes=m.nodes+1:=rfl
  have h4:=szT_eq t
  rw [mTys,szTs]
  split <;> omega
end
mutual
theorem mBk_le (m:Mt) (d:Nat):∀ b:Bk,(mBk m d b).nodes≤m.nodes+szB b
 |.mk _ _ steps _=>by
  have:=mSts_le (m.node d) d steps
  have h3:(m.node d).nodes=m.nodes+1:=rfl
  rw [mBk,szB]
  split <;> omega
theorem mSts_le (m:Mt) (d:Nat):∀ l:List St,(mSts m d l).nodes≤m.nodes+szSs l
 |[]=>by rw [mSts];omega
 |s :: l=>by
  have h1:=mSt_le (m.node 0) d s
  have h2:=mSts_le (mSt (m.node 0) d s) d l
  have h3:(m.node 0).nodes=m.nodes+1:=rfl
  have h4:=szS_eq s
  rw [mSts,szSs]
  split <;> omega
theorem mSt_le (m:Mt) (d:Nat):∀ s:St,(mSt m d s).nodes+1≤m.nodes+szS s
 |.mk _ _ ty _ _ _ types _ _ _ _ _ blocks=>by
  have h1:=mTys_le m 1 [ty]
  have h2:=mTys_le (mTys m 1 [ty]) 1 types
  have h3:=mBks_le (mTys (mTys m 1 [ty]) 1 types) (d+1) blocks
  have h4:szTs [ty]=szT ty+0:=rfl
  rw [mSt,szS]
  omega
theorem mBks_le (m:Mt) (d:Nat):∀ l:List Bk,(mBks m d l).nodes≤m.nodes+szBs l
 |[]=>by rw [mBks];omega
 |b :: l=>by
  have h1:=mBk_le m d b
  have h2:=mBks_le (mBk m d b) d l
  rw [mBks,szBs]
  omega
end
theorem szTs_drop (l:List Ty) (k:Nat) (t:Ty) (h:l[k]? =some t):szTs (l.drop k)=szT t+szTs (l.drop (k+1)):=by
 rw [drop_cons h,szTs]
structure MtR (w:World) (ρ:Ghost) (b:Nat) (m:Mt):Prop where
 blk:Blk w b 78 [.int .i64 m.nodes, .bool m.big]
 tag:ρ b=some (30,0)
def MtT:Tag→Prop:=fun t=>t=(30,0)
theorem node_any (w:World) (ρ:Ghost) (b:Nat) (m:Mt) (d:Nat) (H:MtR w ρ b m) (h1:m.nodes≤1000000000) (h2:d≤1000000) :
 Calls Try.prog 22 #[.pointer (some ⟨b,0,none⟩), .int .i64 d] w fun e w'=>e= .returned (.bool (!(m.node d).big))∧MtR w' ρ b (m.node d)∧Step MtT w ρ w' ρ:=by
 have hb1:=H.blk.setCell 0 (.int .i64 ((m.nodes:Int)+1))
 have hb2:=hb1.setCell 1 (.bool (m.node d).big)
 have hs:Step MtT w ρ ((w.setCell ⟨b,0,none⟩ (.int .i64 ((m.nodes:Int)+1))).setCell ⟨b,1,none⟩ (.bool (m.node d).big)) ρ:=(Step.setCell (T:=MtT) (Step.refl _ w ρ) (a:=⟨b,0,none⟩) H.tag rfl _).setCell (a:=⟨b,1,none⟩) H.tag rfl _
 have HB2:=Hd.mk hb2
 have HS:=Hd.mk hs
 have HT:=Hd.mk H.tag
 have x0:=H.blk.cell (i:=0) rfl
 have x1:=H.blk.cell (i:=1) rfl
 have f0:=H.blk.free 0
 have f1:=hb1.free 1
 have hbg:(m.node d).big=(m.big || decide (16384<m.nodes+1) || decide (64<d)):=rfl
 have hmt:∀ W,Blk W b 78 [.int .i64 ((m.nodes:Int)+1), .bool (m.node d).big]→MtR W ρ b (m.node d):=fun W h=>⟨by
  have e:((m.node d).nodes:Int)=(m.nodes:Int)+1:=by show ((m.nodes+1:Nat):Int)=_;omega
  rw [e];exact h,H.tag⟩
 have HMT:=Hd.mk hmt
 have e1:IntKind.i64.wrap ((m.nodes:Int)+1)=(m.nodes:Int)+1:=IntWalk.i64_in _ (by omega)
 clear hb1 hb2 hs H hmt
 generalize (m.node d).big=bg at *
 cases hb:m.big with
 |true =>
  rw [hb] at x1 hbg
  simp only [Bool.true_or] at hbg
  subst hbg
  clear hb
  go_enter Try.func22,Try.ntmps22
  go_wp2
  go_ret
  exact ⟨by simp,HMT.out _ HB2.out,HS.out⟩
 |false =>
  rw [hb] at x1 hbg
  simp only [Bool.false_or] at hbg
  by_cases hn:16384<m.nodes+1
  ·have hni:(16384:Int)<(m.nodes:Int)+1:=by omega
   simp only [hn,decide_true,Bool.true_or] at hbg
   subst hbg
   clear hb
   go_enter Try.func22,Try.ntmps22
   go_wp2
   go_ret
   exact ⟨by simp,HMT.out _ HB2.out,HS.out⟩
  ·have hni:¬(16384:Int)<(m.nodes:Int)+1:=by omega
   simp only [hn,decide_false,Bool.false_or] at hbg
   by_cases hd:64<d
   ·have hdi:(64:Int)<d:=by omega
    simp only [hd,decide_true] at hbg
    subst hbg
    clear hb
    go_enter Try.func22,Try.ntmps22
    go_wp2
    go_ret
    exact ⟨by simp,HMT.out _ HB2.out,HS.out⟩
   ·have hdi:¬(64:Int)<d:=by omega
    simp only [hd,decide_false] at hbg
    subst hbg
    clear hb
    go_enter Try.func22,Try.ntmps22
    go_wp2
    go_ret
    exact ⟨by simp,HMT.out _ HB2.out,HS.out⟩
end
section
open Go Go.RowKit
def tyCells (t:Ty) (va v1 v2:Value):List Value:=[.int .i64 t.kind, .int .i64 t.n, .string t.name,va, .int .i64 t.region,v1,v2]
theorem TysR.elemC {w:World} {ρ:Ghost} {n:Nat} {A:Option Addr} {len c:Nat} {l:List Ty} (h:TysR w ρ n (.slice A len c) l) {k:Nat} {t:Ty} (hk:l[k]? =some t) :
 ∃ b o m A0 c0 A1 c1 A2 c2,A=some ⟨b,o,none⟩∧n=m+1∧TyR w ρ n t (tyCells t (.slice A0 t.args.length c0) (.slice A1 t.eff.regs.length c1) (.slice A2 t.eff.vars.length c2))∧TysR w ρ m (.slice A0 t.args.length c0) t.args ∧
  CellsAt w b (o+k*7) (tyCells t (.slice A0 t.args.length c0) (.slice A1 t.eff.regs.length c1) (.slice A2 t.eff.vars.length c2)):=by
 obtain ⟨b,o,cs,rfl,_,hR,hc⟩:=SlR.get h hk
 obtain ⟨m,va,v1,v2,rfl,rfl,_,_,_,_,h1,h2,h3⟩:=hR.shape
 obtain ⟨A0,c0,rfl,_,_⟩:=SlR.form h1
 obtain ⟨A1,c1,rfl,_,_⟩:=SlR.form h2
 obtain ⟨A2,c2,rfl,_,_⟩:=SlR.form h3
 exact ⟨b,o,m,A0,c0,A1,c1,A2,c2,rfl,rfl,hR,h1,hc⟩
theorem tyCells_one (t:Ty) (A0 A1 A2:Option Addr) (n0 n1 n2 c0 c1 c2:Nat):(tyCells t (.slice A0 n0 c0) (.slice A1 n1 c1) (.slice A2 n2 c2)).toArray.all (·.oneCell')=true:=by simp [tyCells,Value.oneCell']
theorem MtR.step {T:Tag→Prop} {w w':World} {ρ ρ':Ghost} {b:Nat} {m:Mt} (h:MtR w ρ b m) (hs:Step T w ρ w' ρ') (hT:¬T (30,0)):MtR w' ρ' b m :=
 ⟨hs.blk' h.blk h.tag hT,hs.tag h.blk.lt h.tag⟩
theorem Step.blk0 {T0:Tag→Prop} {w w':World} {ρ ρ':Ghost} {b:Nat} {T:TypeId} {L:List Value} (hs:Step T0 w ρ w' ρ') (hb:Blk w b T L) (h0:ρ b=none):Blk w' b T L∧ρ' b=none :=
 ⟨hb.of_heap (hs.block b hb.lt (fun t ht=>by rw [h0] at ht;cases ht)),by rw [hs.ghost b hb.lt];exact h0⟩
theorem mt_small {m:Mt} {d:Nat} (h:(m.node d).big=false):d≤64:=by
 have:(m.big || decide (16384<m.nodes+1) || decide (64<d))=false:=h
 simp only [Bool.or_eq_false_iff,decide_eq_false_iff_not] at this
 omega
theorem mtypes_any (n:Nat):∀ (w:World) (ρ:Ghost) (b:Nat) (m:Mt) (d:Nat) (l:List Ty) (A:Option Addr) (c:Nat),TysR w ρ n (.slice A l.length c) l→MtR w ρ b m→Fresh w ρ→d≤1000→m.nodes+szTs l≤1000000 →
 Calls Try.prog 21 #[.pointer (some ⟨b,0,none⟩), .slice A l.length c, .int .i64 d] w fun e w'=>e= .returned (.tuple #[])∧MtR w' ρ b (mTys m d l)∧Step MtT w ρ w' ρ:=by
 induction n using Nat.strongRecOn with
 |ind n ih =>
  intro w ρ b m d l A c hT hM hfr hd hsz
  obtain ⟨A',c',hv,hlc,hcm⟩:=SlR.form hT
  cases hv
  have hlen:l.length≤9223372036854775807:=by unfold maxLen at hcm;omega
  have HT:=Hd.mk hT
  have HIH:=Hd.mk ih
  have HM0:=Hd.mk hM
  have HFR:=Hd.mk hfr
  clear hT ih hlc hcm hM hfr
  go_enter Try.func21,Try.ntmps21
  go_wp2_with fail
  go_loopw [10] (fun vk wr=>∃ (k:Nat) (m1:Mt),vk= .int .i64 k∧k≤l.length∧mTys m d l=mTys m1 d (l.drop k)∧m1.nodes+szTs (l.drop k)≤1000000∧MtR wr ρ b m1∧Step MtT w ρ wr ρ) (fun v _=>l.length-(intOf v).toNat)
  case atStart=>exact ⟨0,m,by simp,by omega,by simp,by simpa using hsz,HM0.out,Step.refl _ _ _⟩
  case round =>
   obtain ⟨k,m1,rfl,hk,he,hq,hM,hS⟩:=hrel
   have HE:=Hd.mk he
   have HS:=Hd.mk hS
   have HM:=Hd.mk hM
   clear he hS hM hsz
   by_cases hlt:k<l.length
   ·obtain ⟨b1,o,m',A0,c0,A1,c1,A2,c2,hA,hnm,hR,hTa,hc⟩:=(HT.out.step HS.out).elemC (List.getElem?_eq_getElem hlt)
    subst hA
    have hdr:=drop_cons (List.getElem?_eq_getElem hlt)
    have hss:=szTs_drop l k _ (List.getElem?_eq_getElem hlt)
    generalize l[k]=t at *
    have hE:=HE.out
    rw [hdr,mTys] at hE
    rw [szT_eq] at hss
    have HTA:=Hd.mk hTa
    have HE2:=Hd.mk hE
    have HXN0:Hd (ρ wr.heap.size=none):=⟨HS.out.fresh HFR.out _ (Nat.le_refl _)⟩
    clear hR hdr hTa hE HE
    have hin:(Try.prog.info? 43).map (·.size)=some 7:=by kernel_rfl
    generalize hcs:tyCells t _ _ _=cs at hc
    have hcl:cs.length=7:=by rw [←hcs];rfl
    have hone:cs.toArray.all (·.oneCell')=true:=by rw [←hcs];exact tyCells_one ..
    have hin2:(Try.prog.info? 43).map (·.size)=some cs.length:=by rw [hcl];exact hin
    have HSZ:Hd (cs.toArray.size=7):=⟨by rw [List.size_toArray,hcl]⟩
    have HCC:Hd (wr.rangeAt b1 (o+k*7) cs):=⟨hc⟩
    have HIN:=Hd.mk hin2
    have HON:=Hd.mk hone
    have HS1:=Hd.mk ((Step.refl (fun _=>False) wr ρ).alloc (.cells cs.toArray 43))
    have XS0:=Hd.mk (Blk.new' wr cs.toArray 43)
    have HCS:=Hd.mk hcs
    clear hc hin hone hcs hin2
    go_wp2_with (first|(refine wpList_load_mid rfl 43 _ rfl b1 (o+k*7) rfl cs _ HCC.out Try.underlying43 rfl HIN.out ?_)|(refine wpList_store_new rfl 43 _ _ rfl _ cs.toArray rfl rfl (by rw [List.size_toArray];exact HIN.out) (Eq.trans rfl HSZ.out.symm) HON.out ?_))
    generalize wr.alloc (.cells cs.toArray 43)=W1 at *
    generalize wr.heap.size=Xs at *
    have xs0:Blk W1 Xs 43 cs:=XS0.out
    rw [←HCS.out] at xs0
    have XS:=Hd.mk xs0
    clear xs0
    have HXN:Hd (ρ Xs=none):=HXN0
    have HM1:=Hd.mk (HM.out.step HS1.out (fun h=>h))
    have hnode:=node_any W1 ρ b m1 d HM1.out (by omega) (by omega)
    have hnn:(m1.node d).nodes=m1.nodes+1:=rfl
    have HN:=Hd.mk hnode
    clear hnode
    refine HN.out.mono ?_
    rintro e W2 ⟨rfl,M2,S2⟩
    have HM2:=Hd.mk M2
    have HSN:=Hd.mk S2
    have HS2:=Hd.mk ((HS.out.trans (HS1.out.mono (fun _ h=>h.elim))).trans S2)
    have XS2:=Hd.mk (S2.blk0 XS.out (HXN.out)).1
    clear M2 S2 HN
    cases hbg:(m1.node d).big with
    |true =>
     have hE3:=HE2.out
     rw [if_pos hbg] at hE3
     have HE3:=Hd.mk hE3
     clear hE3 hbg
     go_wp2
     refine bodyPost_ret (results_none rfl _ _ _) rfl ?_
     exact ⟨rfl,by rw [HE3.out];exact HM2.out,HS2.out⟩
    |false =>
     have hdd:=mt_small hbg
     have hE3:=HE2.out
     rw [if_neg (by rw [hbg];simp),mTy_eq] at hE3
     have HE3:=Hd.mk hE3
     have hle:=mTys_le (m1.node d) (d+1) t.args
     have ed:IntKind.i64.wrap ((d:Int)+1)=(d:Int)+1:=IntWalk.i64_in _ (by omega)
     have hrec:=HIH.out m' (by omega) W2 ρ b (m1.node d) (d+1) t.args A0 c0 (HTA.out.step ((HS1.out.mono (fun _ h=>h.elim):Step MtT wr ρ W1 ρ).trans HSN.out)) HM2.out (HS2.out.fresh HFR.out) (by omega) (by omega)
     have ecast:((d+1:Nat):Int)=(d:Int)+1:=by omega
     rw [ecast] at hrec
     clear ecast
     obtain ⟨m2,hm2⟩:∃ z,mTys (m1.node d) (d+1) t.args=z:=⟨_,rfl⟩
     rw [hm2] at hrec hle
     have hE4:=HE3.out
     rw [hm2] at hE4
     have HE4:=Hd.mk hE4
     have HREC:=Hd.mk hrec
     have z3:W2.cell? ⟨Xs,3,none⟩=some (.slice A0 t.args.length c0):=XS2.out.cell (i:=3) rfl
     clear hrec hm2 hE4 hE3 hbg
     go_wp2_with fail
     refine HREC.out.mono ?_
     rintro e W3 ⟨rfl,M3,S3⟩
     have HM3:=Hd.mk M3
     have HS3:=Hd.mk (HS2.out.trans S3)
     clear M3 S3 HREC z3
     go_wp2
     go_roundw
     case rel=>exact ⟨k+1,m2,by go_num,by omega,HE4.out,by omega,HM3.out,HS3.out⟩
     case measure=>simp [intOf];omega
   ·have hke:k=l.length:=by omega
    subst hke
    go_wp2
    go_end0
    exact ⟨rfl,by rw [HE.out,List.drop_length,mTys];exact HM.out,HS.out⟩
end
section
open Go Go.RowKit
def bkCells (t:Bk) (vb vs:Value):List Value:=[.int .i64 t.code,vb,vs, .int .i64 t.value]
theorem bkCells_one (t:Bk) (A0 A1:Option Addr) (n0 n1 c0 c1:Nat):(bkCells t (.slice A0 n0 c0) (.slice A1 n1 c1)).toArray.all (·.oneCell')=true:=by simp [bkCells,Value.oneCell']
theorem BksR.elemC {w:World} {ρ:Ghost} {n:Nat} {A:Option Addr} {len c:Nat} {l:List Bk} (h:BksR w ρ n (.slice A len c) l) {k:Nat} {t:Bk} (hk:l[k]? =some t) :
 ∃ b o A0 c0 A1 c1,A=some ⟨b,o,none⟩∧BkR w ρ n t (bkCells t (.slice A0 t.bind.length c0) (.slice A1 t.steps.length c1))∧CellsAt w b (o+k*4) (bkCells t (.slice A0 t.bind.length c0) (.slice A1 t.steps.length c1)):=by
 obtain ⟨b,o,cs,rfl,_,hR,hc⟩:=SlR.get h hk
 obtain ⟨m,vb,vs,rfl,rfl,_,_,h1,h2⟩:=hR.shape
 obtain ⟨A0,c0,rfl,_,_⟩:=SlR.form h1
 obtain ⟨A1,c1,rfl,_,_⟩:=SlR.form h2
 exact ⟨b,o,A0,c0,A1,c1,rfl,hR,hc⟩
theorem TysR.one {w:World} {ρ:Ghost} {n:Nat} {B:Nat} {t:Ty} {va v1 v2:Value} (hb:Blk w B 43 (tyCells t va v1 v2)) (h0:ρ B=none) (h:TyR w ρ n t (tyCells t va v1 v2)):TysR w ρ n (.slice (some ⟨B,0,none⟩) 1 1) [t]:=by
 refine ⟨some ⟨B,0,none⟩,1,rfl,by simp,by unfold maxLen;omega,by simp,fun i x hi=>?_⟩
 obtain ⟨rfl,rfl⟩:i=0∧x=t:=by
  cases i with
  |zero=>simp at hi;exact ⟨rfl,hi.symm⟩
  |succ i=>simp at hi
 refine ⟨B,0,_,rfl,h0,hb.lt,rfl,h,fun j u hj=>?_⟩
 rw [show 0+0*7+j=j by omega]
 exact hb.cell hj
theorem szBs_drop (l:List Bk) (k:Nat) (t:Bk) (h:l[k]? =some t):szBs (l.drop k)=szB t+szBs (l.drop (k+1)):=by rw [drop_cons h,szBs]
theorem szSs_drop (l:List St) (k:Nat) (t:St) (h:l[k]? =some t):szSs (l.drop k)=szS t+szSs (l.drop (k+1)):=by rw [drop_cons h,szSs]
theorem mblock_any (n:Nat):∀ (w:World) (ρ:Ghost) (b:Nat) (m:Mt) (d:Nat) (t:Bk) (vb vs:Value),BkR w ρ n t [.int .i64 t.code,vb,vs, .int .i64 t.value]→MtR w ρ b m→Fresh w ρ→d≤1000→m.nodes+szB t≤1000000 →
 Calls Try.prog 23 #[.pointer (some ⟨b,0,none⟩), .agg #[.int .i64 t.code,vb,vs, .int .i64 t.value], .int .i64 d] w fun e w'=>e= .returned (.tuple #[])∧MtR w' ρ b (mBk m d t)∧Step MtT w ρ w' ρ:=by
 induction n with
 |zero=>intro w ρ b m d t vb vs h;exact h.elim
 |succ n ih =>
  intro w ρ b m d t vb vs hR hM hfr hd hsz
  obtain ⟨m',vb',vs',hm,hcs,_,_,hTb,hT⟩:=hR.shape
  simp only [List.cons.injEq,and_true,true_and] at hcs
  obtain ⟨rfl,rfl⟩:=hcs
  obtain rfl:n=m':=by omega
  have hT:StsR w ρ n vs t.steps:=hT
  rw [szB_eq] at hsz
  obtain ⟨mr,hmr⟩:∃ z,mBk m d t=z:=⟨_,rfl⟩
  rw [hmr]
  rw [mBk_eq] at hmr
  have HMR:=Hd.mk hmr
  clear hmr
  generalize t.steps=l at *
  obtain ⟨A,c,rfl,hlc,hcm⟩:=SlR.form hT
  obtain ⟨Ab0,cb0,rfl,_,_⟩:=SlR.form hTb
  have hlen:l.length≤9223372036854775807:=by unfold maxLen at hcm;omega
  have HT:=Hd.mk hT
  have HIH:=Hd.mk ih
  have HFR:=Hd.mk hfr
  have HM0:=Hd.mk hM
  clear hT ih hR hm hTb hlc hcm hfr hM
  generalize t.code=x0 at *
  generalize t.value=x3 at *
  generalize t.bind.length=xb at *
  have HS0:=Hd.mk ((Step.refl (fun _=>False) w ρ).alloc (.cells #[.int .i64 x0, .slice Ab0 xb cb0, .slice A l.length c, .int .i64 x3] 46))
  have X:=Hd.mk (Blk.new' w #[.int .i64 x0, .slice Ab0 xb cb0, .slice A l.length c, .int .i64 x3] 46)
  have X0:Hd (ρ w.heap.size=none):=⟨HFR.out _ (Nat.le_refl _)⟩
  have HM1:=Hd.mk (HM0.out.step HS0.out (fun h=>h))
  go_enter Try.func23,Try.ntmps23
  go_wp2_with fail
  generalize w.alloc (.cells #[.int .i64 x0, .slice Ab0 xb cb0, .slice A l.length c, .int .i64 x3] 46)=W at *
  generalize w.heap.size=Xb at *
  refine (node_any W ρ b m d HM1.out (by omega) (by omega)).mono ?_
  rintro e W0 ⟨rfl,M2,S2⟩
  have hnn:(m.node d).nodes=m.nodes+1:=rfl
  have HM2:=Hd.mk M2
  have HS2:=Hd.mk ((HS0.out.mono (fun _ h=>h.elim):Step MtT w ρ W ρ).trans S2)
  have X2:=Hd.mk (S2.blk0 X.out X0.out)
  clear M2 S2
  cases hbg:(m.node d).big with
  |true =>
   have HBG:=Hd.mk hbg
   clear hbg
   go_wp2
   refine bodyPost_ret (results_none rfl _ _ _) rfl ?_
   exact ⟨rfl,by rw [←HMR.out,if_pos HBG.out];exact HM2.out,HS2.out⟩
  |false =>
   have hdd:=mt_small hbg
   have y2:=X2.out.1.cell (i:=2) rfl
   have hmr:=HMR.out
   rw [if_neg (by rw [hbg];simp)] at hmr
   clear hbg
   obtain ⟨mm,hmm⟩:∃ z,m.node d=z:=⟨_,rfl⟩
   rw [hmm] at HM2 hnn hmr
   have HMR2:=Hd.mk hmr
   clear hmm HM1 HM0 hmr HMR
   go_wp2_with fail
   go_loopw [17] (fun vk wr=>∃ (k:Nat) (m1:Mt),vk= .int .i64 k∧k≤l.length∧mSts mm d l=mSts m1 d (l.drop k)∧m1.nodes+szSs (l.drop k)≤1000000∧MtR wr ρ b m1∧Step MtT w ρ wr ρ) (fun v _=>l.length-(intOf v).toNat)
   case atStart=>exact ⟨0,mm,by simp,by omega,by simp,by simp;omega,HM2.out,HS2.out⟩
   case round =>
    obtain ⟨k,m1,rfl,hk,he,hq,hM,hS⟩:=hrel
    have HE:=Hd.mk he
    have HS:=Hd.mk hS
    have HM:=Hd.mk hM
    clear he hS hM hsz y2 hnn
    by_cases hlt:k<l.length
    ·obtain ⟨b1,o,va0,v1,v2,va,vt,ve,vr,vm,vk,vb2,hA,hV,hc⟩:=(HT.out.step HS.out).elem (List.getElem?_eq_getElem hlt)
     subst hA
     have hdr:=drop_cons (List.getElem?_eq_getElem hlt)
     have hss:=szSs_drop l k _ (List.getElem?_eq_getElem hlt)
     generalize l[k]=s at *
     obtain ⟨_,_,_,_,_,hty,_,_,_,_,hy0,hy1,hy2⟩:=TyR.shape hV.ty
     simp only [List.cons.injEq,and_true,true_and] at hty
     obtain ⟨rfl,rfl,rfl⟩:=hty
     obtain ⟨a0,k0,rfl,hl0,hm0⟩:=SlR.form hy0
     obtain ⟨a1,k1,rfl,hl1,hm1⟩:=SlR.form hy1
     obtain ⟨a2,k2,rfl,hl2,hm2⟩:=SlR.form hy2
     obtain ⟨a3,k3,rfl,hl3,hm3⟩:=SlR.form hV.args
     obtain ⟨a4,k4,rfl,hl4,hm4⟩:=SlR.form hV.types
     obtain ⟨a5,k5,rfl,hl5,hm5⟩:=SlR.form hV.effs
     obtain ⟨a6,k6,rfl,hl6,hm6⟩:=SlR.form hV.regs
     obtain ⟨a7,k7,rfl,hl7,hm7⟩:=SlR.form hV.modes
     obtain ⟨a8,k8,rfl,hl8,hm8⟩:=SlR.form hV.keep
     obtain ⟨a9,k9,rfl,hl9,hm9⟩:=SlR.form hV.blocks
     clear hy0 hy1 hy2
     have HV:=Hd.mk hV
     have hE:=HE.out
     rw [hdr,mSts] at hE
     rw [szS_eq] at hss
     have hblen:s.blocks.length≤9223372036854775807:=by unfold maxLen at hm9;omega
     clear hm0 hm1 hm2 hm3 hm4 hm5 hm6 hm7 hm8 hm9 hl0 hl1 hl2 hl3 hl4 hl5 hl6 hl7 hl8 hl9
     have HE2:=Hd.mk hE
     have HXN0:Hd (ρ wr.heap.size=none):=⟨HS.out.fresh HFR.out _ (Nat.le_refl _)⟩
     clear hdr hE HE hV
     have hin:(Try.prog.info? 94).map (·.size)=some 19:=by kernel_rfl
     generalize hcs:stCells s _ _ _ _ _ _ _ _ _ _=cs at hc
     have hcl:cs.length=19:=by rw [←hcs];rfl
     have hone:cs.toArray.all (·.oneCell')=true:=by rw [←hcs];exact stCells_one ..
     have hin2:(Try.prog.info? 94).map (·.size)=some cs.length:=by rw [hcl];exact hin
     have HSZ:Hd (cs.toArray.size=19):=⟨by rw [List.size_toArray,hcl]⟩
     have HCC:Hd (wr.rangeAt b1 (o+k*19) cs):=⟨hc⟩
     have HIN:=Hd.mk hin2
     have HON:=Hd.mk hone
     have HS1:=Hd.mk ((Step.refl (fun _=>False) wr ρ).alloc (.cells cs.toArray 94))
     have XS0:=Hd.mk (Blk.new' wr cs.toArray 94)
     have HCS:=Hd.mk hcs
     clear hc hin hone hcs hin2
     go_wp2_with (first|(refine wpList_load_mid rfl 94 _ rfl b1 (o+k*19) rfl cs _ HCC.out Try.underlying94 rfl HIN.out ?_)|(refine wpList_store_new rfl 94 _ _ rfl _ cs.toArray rfl rfl (by rw [List.size_toArray];exact HIN.out) (Eq.trans rfl HSZ.out.symm) HON.out ?_))
     generalize wr.alloc (.cells cs.toArray 94)=W1 at *
     generalize wr.heap.size=Xs at *
     have xs0:Blk W1 Xs 94 cs:=XS0.out
     rw [←HCS.out] at xs0
     have XS:=Hd.mk xs0
     clear xs0
     have HXN:Hd (ρ Xs=none):=HXN0
     have HMa:=Hd.mk (HM.out.step HS1.out (fun h=>h))
     refine (node_any W1 ρ b m1 0 HMa.out (by omega) (by omega)).mono ?_
     rintro e W2 ⟨rfl,M2,S2⟩
     have hnn:(m1.node 0).nodes=m1.nodes+1:=rfl
     have HMb:=Hd.mk M2
     have HSb:=Hd.mk ((HS1.out.mono (fun _ h=>h.elim):Step MtT wr ρ W1 ρ).trans S2)
     have XS2:=Hd.mk (S2.blk0 XS.out HXN.out).1
     clear M2 S2 HMa
     cases hbg:(m1.node 0).big with
     |true =>
      have hE3:=HE2.out
      rw [if_pos hbg] at hE3
      have HE3:=Hd.mk hE3
      clear hE3 hbg
      go_wp2
      refine bodyPost_ret (results_none rfl _ _ _) rfl ?_
      exact ⟨rfl,by rw [←HMR2.out,HE3.out];exact HMb.out,HS.out.trans HSb.out⟩
     |false =>
      have hE3:=HE2.out
      rw [if_neg (by rw [hbg];simp),mSt_eq] at hE3
      clear hbg
      obtain ⟨ma,hma⟩:∃ z,m1.node 0=z:=⟨_,rfl⟩
      rw [hma] at hE3 HMb hnn
      clear hma
      have h1:szTs [s.ty]=szT s.ty+0:=rfl
      have hle1:=mTys_le ma 1 [s.ty]
      have hle2:=mTys_le (mTys ma 1 [s.ty]) 1 s.types
      have hle3:=mBks_le (mTys (mTys ma 1 [s.ty]) 1 s.types) (d+1) s.blocks
      obtain ⟨mb,hmb⟩:∃ z,mTys ma 1 [s.ty]=z:=⟨_,rfl⟩
      rw [hmb] at hE3 hle1 hle2 hle3
      obtain ⟨mc,hmc⟩:∃ z,mTys mb 1 s.types=z:=⟨_,rfl⟩
      rw [hmc] at hE3 hle2 hle3
      obtain ⟨md,hmd⟩:∃ z,mBks mc (d+1) s.blocks=z:=⟨_,rfl⟩
      rw [hmd] at hE3 hle3
      have HE3:=Hd.mk hE3
      have HMB:=Hd.mk hmb
      have HMC:=Hd.mk hmc
      have HMD:=Hd.mk hmd
      clear hE3 HE2 hmb hmc hmd
      have d2:W2.cell? ⟨Xs,2,none⟩=some (.int .i64 s.ty.kind):=XS2.out.cell (i:=2) rfl
      have d3:W2.cell? ⟨Xs,3,none⟩=some (.int .i64 s.ty.n):=XS2.out.cell (i:=3) rfl
      have d4:W2.cell? ⟨Xs,4,none⟩=some (.string s.ty.name):=XS2.out.cell (i:=4) rfl
      have d5:W2.cell? ⟨Xs,5,none⟩=some (.slice a0 s.ty.args.length k0):=XS2.out.cell (i:=5) rfl
      have d6:W2.cell? ⟨Xs,6,none⟩=some (.int .i64 s.ty.region):=XS2.out.cell (i:=6) rfl
      have d7:W2.cell? ⟨Xs,7,none⟩=some (.slice a1 s.ty.eff.regs.length k1):=XS2.out.cell (i:=7) rfl
      have d8:W2.cell? ⟨Xs,8,none⟩=some (.slice a2 s.ty.eff.vars.length k2):=XS2.out.cell (i:=8) rfl
      have HSc:=Hd.mk (HSb.out.alloc (.cells #[.int .i64 s.ty.kind, .int .i64 s.ty.n, .string s.ty.name, .slice a0 s.ty.args.length k0, .int .i64 s.ty.region, .slice a1 s.ty.eff.regs.length k1, .slice a2 s.ty.eff.vars.length k2] 43))
      have XO:=Hd.mk (Blk.new' W2 #[.int .i64 s.ty.kind, .int .i64 s.ty.n, .string s.ty.name, .slice a0 s.ty.args.length k0, .int .i64 s.ty.region, .slice a1 s.ty.eff.regs.length k1, .slice a2 s.ty.eff.vars.length k2] 43)
      have XON:Hd (ρ W2.heap.size=none):=⟨(HS.out.trans HSb.out).fresh HFR.out _ (Nat.le_refl _)⟩
      have HMc:=Hd.mk (HMb.out.step ((Step.refl (fun _=>False) W2 ρ).alloc (.cells #[.int .i64 s.ty.kind, .int .i64 s.ty.n, .string s.ty.name, .slice a0 s.ty.args.length k0, .int .i64 s.ty.region, .slice a1 s.ty.eff.regs.length k1, .slice a2 s.ty.eff.vars.length k2] 43)) (fun h=>h))
      have XS3:=Hd.mk (XS2.out.alloc (.cells #[.int .i64 s.ty.kind, .int .i64 s.ty.n, .string s.ty.name, .slice a0 s.ty.args.length k0, .int .i64 s.ty.region, .slice a1 s.ty.eff.regs.length k1, .slice a2 s.ty.eff.vars.length k2] 43))
      go_wp2_with fail
      clear d2 d3 d4 d5 d6 d7 d8
      generalize W2.alloc (.cells #[.int .i64 s.ty.kind, .int .i64 s.ty.n, .string s.ty.name, .slice a0 s.ty.args.length k0, .int .i64 s.ty.region, .slice a1 s.ty.eff.regs.length k1, .slice a2 s.ty.eff.vars.length k2] 43)=W3 at *
      generalize W2.heap.size=Xo at *
      have hone:=TysR.one (t:=s.ty) XO.out XON.out (HV.out.step HSc.out).ty
      have hc1:=mtypes_any n W3 ρ b ma 1 [s.ty] (some ⟨Xo,0,none⟩) 1 hone HMc.out ((HS.out.trans HSc.out).fresh HFR.out) (by omega) (by omega)
      rw [HMB.out] at hc1
      refine hc1.mono ?_
      clear hc1 hone
      rintro e W4 ⟨rfl,M4,S4⟩
      have HM4:=Hd.mk M4
      have HS4:=Hd.mk (HSc.out.trans S4)
      have XS4:=Hd.mk (S4.blk0 XS3.out HXN.out).1
      have z12:W4.cell? ⟨Xs,12,none⟩=some (.slice a4 s.types.length k4):=XS4.out.cell (i:=12) rfl
      clear M4 S4
      go_wp2_with fail
      have hc2:=mtypes_any n W4 ρ b mb 1 s.types a4 k4 (HV.out.step HS4.out).types HM4.out ((HS.out.trans HS4.out).fresh HFR.out) (by omega) (by omega)
      rw [HMC.out] at hc2
      refine hc2.mono ?_
      clear hc2 z12
      rintro e W5 ⟨rfl,M5,S5⟩
      have HM5:=Hd.mk M5
      have HS5:=Hd.mk (HS4.out.trans S5)
      have XS5:=Hd.mk (S5.blk0 XS4.out HXN.out).1
      have z18:W5.cell? ⟨Xs,18,none⟩=some (.slice a9 s.blocks.length k9):=XS5.out.cell (i:=18) rfl
      clear M5 S5
      go_wp2_with fail
      have HBK:=Hd.mk (HV.out.step HS5.out).blocks
      have HS5g:=Hd.mk (HS.out.trans HS5.out)
      have hbd:mc.nodes+szBs s.blocks+szSs (l.drop (k+1))≤1000000:=by omega
      clear z18 hq hss hnn hle1 hle2 h1 HMb HMc HM4 XS2 XS3 XS4 HMB HMC
      go_loopw [36] (fun vi wr=>∃ (i:Nat) (m2:Mt),vi= .int .i64 i∧i≤s.blocks.length∧mBks mc (d+1) s.blocks=mBks m2 (d+1) (s.blocks.drop i)∧m2.nodes+szBs (s.blocks.drop i)+szSs (l.drop (k+1))≤1000000∧MtR wr ρ b m2∧Step MtT W5 ρ wr ρ) (fun v _=>s.blocks.length-(intOf v).toNat)
      case atStart=>exact ⟨0,mc,by simp,by omega,by simp,by simpa using hbd,HM5.out,Step.refl _ _ _⟩
      case round =>
       obtain ⟨i,m2,rfl,hi,he2,hq2,hM2,hS2⟩:=hrel
       have HEi:=Hd.mk he2
       have HSi:=Hd.mk hS2
       have HMi:=Hd.mk hM2
       clear he2 hS2 hM2 hbd
       by_cases hlti:i<s.blocks.length
       ·obtain ⟨b2,o2,B0,e0,B1,e1,hA2,hR2,hc⟩:=((HBK.out.step HSi.out).elemC (List.getElem?_eq_getElem hlti))
        subst hA2
        have hdr2:=drop_cons (List.getElem?_eq_getElem hlti)
        have hss2:=szBs_drop s.blocks i _ (List.getElem?_eq_getElem hlti)
        generalize s.blocks[i]=q at *
        have hE2:=HEi.out
        rw [hdr2,mBks] at hE2
        have hleb:=mBk_le m2 (d+1) q
        have HRq:=Hd.mk hR2
        have HYN0:Hd (ρ wr.heap.size=none):=⟨(HS5g.out.trans HSi.out).fresh HFR.out _ (Nat.le_refl _)⟩
        obtain ⟨m3,hm3⟩:∃ z,mBk m2 (d+1) q=z:=⟨_,rfl⟩
        rw [hm3] at hE2 hleb
        have HEi2:=Hd.mk hE2
        have HM3:=Hd.mk hm3
        clear hR2 hdr2 hE2 HEi hm3
        have p0:wr.cell? ⟨b2,o2+i*4,none⟩=some (.int .i64 q.code):=hc 0 _ rfl
        have p1:wr.cell? ⟨b2,o2+i*4+1,none⟩=some (.slice B0 q.bind.length e0):=hc 1 _ rfl
        have p2:wr.cell? ⟨b2,o2+i*4+2,none⟩=some (.slice B1 q.steps.length e1):=hc 2 _ rfl
        have p3:wr.cell? ⟨b2,o2+i*4+3,none⟩=some (.int .i64 q.value):=hc 3 _ rfl
        have HU1:=Hd.mk ((Step.refl (fun _=>False) wr ρ).alloc (.cells #[.int .i64 q.code, .slice B0 q.bind.length e0, .slice B1 q.steps.length e1, .int .i64 q.value] 46))
        clear hc
        have ed:IntKind.i64.wrap ((d:Int)+1)=(d:Int)+1:=IntWalk.i64_in _ (by omega)
        go_wp2_with fail
        generalize wr.alloc (.cells #[.int .i64 q.code, .slice B0 q.bind.length e0, .slice B1 q.steps.length e1, .int .i64 q.value] 46)=V1 at *
        clear p0 p1 p2 p3
        have HMv:=Hd.mk (HMi.out.step HU1.out (fun h=>h))
        have hrec:=HIH.out V1 ρ b m2 (d+1) q _ _ (BkR.step HU1.out n HRq.out) HMv.out (((HS5g.out.trans HSi.out).trans (HU1.out.mono (fun _ h=>h.elim))).fresh HFR.out) (by omega) (by omega)
        have ecast:((d+1:Nat):Int)=(d:Int)+1:=by omega
        rw [HM3.out,ecast] at hrec
        have HREC:=Hd.mk hrec
        clear hrec ecast
        refine HREC.out.mono ?_
        rintro e V2 ⟨rfl,M6,S6⟩
        have HM6:=Hd.mk M6
        have HS6:=Hd.mk ((HSi.out.trans (HU1.out.mono (fun _ h=>h.elim))).trans S6)
        clear M6 S6 HREC
        go_wp2
        go_roundw
        case rel=>exact ⟨i+1,m3,by go_num,by omega,HEi2.out,by omega,HM6.out,HS6.out⟩
        case measure=>simp [intOf];omega
       ·have hie:i=s.blocks.length:=by omega
        subst hie
        have hE9:=HEi.out
        rw [List.drop_length,mBks] at hE9
        rw [List.drop_length,szBs] at hq2
        have HE9:=Hd.mk (HMD.out.symm.trans hE9)
        clear hE9
        go_wp2
        go_roundw
        case rel=>exact ⟨k+1,m2,by go_num,by omega,by rw [←HE9.out];exact HE3.out,by omega,HMi.out,HS5g.out.trans HSi.out⟩
        case measure=>simp [intOf];omega
    ·have hke:k=l.length:=by omega
     subst hke
     go_wp2
     go_end0
     exact ⟨rfl,by rw [←HMR2.out,HE.out,List.drop_length,mSts];exact HM.out,HS.out⟩
end
end Go.Proofs.Ytadffbgbndibpaa
