/- FlJ, FlK, FlL, FlO, FlP: lemmas and walks of the claim. -/
import Derived.Test.YtadffbgbndibpaaKFlI
set_option linter.unusedVariables false
set_option linter.unusedSimpArgs false
set_option maxHeartbeats 16000000
set_option maxRecDepth 100000
namespace Go.Proofs.Ytadffbgbndibpaa
section
open Go Go.RowKit
def szCs:List Con→Nat
 |[]=>0
 |c :: l=>szTs c.fields+szCs l
def szDs:List Dat→Nat
 |[]=>0
 |d :: l=>szCs d.cons+szDs l
def szF (f:Fu):Nat:=1+szTs f.params+szT f.result+szB f.body
def szFs:List Fu→Nat
 |[]=>0
 |f :: l=>szF f+szFs l
def mFun (m:Mt) (f:Fu):Mt:=mBk (mTys (mTys (m.node 0) 1 f.params) 1 [f.result]) 1 f.body
theorem mFuns_cons (m:Mt) (f:Fu) (l:List Fu):mFuns m (f :: l)=if (mFun m f).big then mFun m f else mFuns (mFun m f) l:=rfl
theorem mCons_le (m:Mt) (l:List Con):(mCons m l).nodes≤m.nodes+szCs l:=by
 induction l generalizing m with
 |nil=>rw [mCons];omega
 |cons c l ih =>
  have h1:=mTys_le m 1 c.fields
  have h2:=ih (mTys m 1 c.fields)
  rw [mCons,szCs]
  omega
theorem mDats_le (m:Mt) (l:List Dat):(mDats m l).nodes≤m.nodes+szDs l:=by
 induction l generalizing m with
 |nil=>rw [mDats];omega
 |cons c l ih =>
  have h1:=mCons_le m c.cons
  have h2:=ih (mCons m c.cons)
  rw [mDats,szDs]
  omega
theorem Step.belowT {T:Tag→Prop} {w w':World} {ρ ρ':Ghost} (h:Step T w ρ w' ρ') (hn:∀ k t,ρ k=some t→¬T t):Below w.heap.size w w' :=
 ⟨h.os,h.tape,h.output,h.size,fun k hk=>h.block k hk (hn k)⟩
theorem big_any (n:Nat) (w:World) (ρ:Ghost) (p:Pg) (v1 v2 v3:Value) (hR:PgR w ρ n p [v1,v2,v3, .int .i64 p.main]) (hfr:Fresh w ρ) (hno:∀ k t,ρ k=some t→¬MtT t) (hsz:szDs p.datas+szFs p.funs≤1000000) :
 Calls Try.prog 11 #[.agg #[v1,v2,v3, .int .i64 p.main]] w fun e w'=>e= .returned (.bool (bigP p))∧Below w.heap.size w w':=by
 obtain ⟨v1',v2',v3',hcs,_,hT1,hT2,hT3⟩:=hR
 simp only [List.cons.injEq,and_true,true_and] at hcs
 obtain ⟨rfl,rfl,rfl⟩:=hcs
 have hT1:DatsR w ρ n v1 p.datas:=hT1
 have hT3:FusR w ρ n v3 p.funs:=hT3
 obtain ⟨A1,c1,rfl,hlc1,hcm1⟩:=SlR.form hT1
 obtain ⟨A2,c2,rfl,_,_⟩:=SlR.form hT2
 obtain ⟨A3,c3,rfl,hlc3,hcm3⟩:=SlR.form hT3
 have hlen1:p.datas.length≤9223372036854775807:=by unfold maxLen at hcm1;omega
 have hlen3:p.funs.length≤9223372036854775807:=by unfold maxLen at hcm3;omega
 have HT1:=Hd.mk hT1
 have HT3:=Hd.mk hT3
 have HFR:=Hd.mk hfr
 have HNO:=Hd.mk hno
 clear hT1 hT2 hT3 hlc1 hcm1 hlc3 hcm3 hfr hno
 obtain ⟨pm,hpm⟩:∃ z,p.main=z:=⟨_,rfl⟩
 obtain ⟨br,hbr⟩:∃ z,bigP p=z:=⟨_,rfl⟩
 rw [hpm,hbr]
 have HBR:=Hd.mk hbr
 clear hpm hbr
 have HS0:=Hd.mk (((Step.refl (fun _=>False) w ρ).alloc (.cells #[.slice A1 p.datas.length c1, .slice A2 p.exns.length c2, .slice A3 p.funs.length c3, .int .i64 pm] 26)).alloc_tag (.cells #[.int .i64 0, .bool false] 78) (30,0))
 have X:=Hd.mk ((Blk.new' w #[.slice A1 p.datas.length c1, .slice A2 p.exns.length c2, .slice A3 p.funs.length c3, .int .i64 pm] 26).alloc (.cells #[.int .i64 0, .bool false] 78))
 have XN:Hd ((ρ.put (w.alloc (.cells #[.slice A1 p.datas.length c1, .slice A2 p.exns.length c2, .slice A3 p.funs.length c3, .int .i64 pm] 26)).heap.size (30,0)) w.heap.size=none):=⟨by
  rw [Ghost.put_ne]
  ·exact HFR.out _ (Nat.le_refl _)
  ·have:(w.alloc (.cells #[.slice A1 p.datas.length c1, .slice A2 p.exns.length c2, .slice A3 p.funs.length c3, .int .i64 pm] 26)).heap.size=w.heap.size+1:=Array.size_push _
   omega⟩
 have HM0:Hd (MtR ((w.alloc (.cells #[.slice A1 p.datas.length c1, .slice A2 p.exns.length c2, .slice A3 p.funs.length c3, .int .i64 pm] 26)).alloc (.cells #[.int .i64 0, .bool false] 78)) (ρ.put (w.alloc (.cells #[.slice A1 p.datas.length c1, .slice A2 p.exns.length c2, .slice A3 p.funs.length c3, .int .i64 pm] 26)).heap.size (30,0)) (w.alloc (.cells #[.slice A1 p.datas.length c1, .slice A2 p.exns.length c2, .slice A3 p.funs.length c3, .int .i64 pm] 26)).heap.size ⟨0,false⟩):=⟨⟨Blk.new' _ _ _,Ghost.put_same _ _ _⟩⟩
 have hszb:(w.alloc (.cells #[.slice A1 p.datas.length c1, .slice A2 p.exns.length c2, .slice A3 p.funs.length c3, .int .i64 pm] 26)).heap.size=w.heap.size+1:=Array.size_push _
 rw [hszb] at HS0 XN HM0
 clear hszb
 go_enter Try.func11,Try.ntmps11
 go_wp2_with fail
 generalize (w.alloc (.cells #[.slice A1 p.datas.length c1, .slice A2 p.exns.length c2, .slice A3 p.funs.length c3, .int .i64 pm] 26)).alloc (.cells #[.int .i64 0, .bool false] 78)=W at *
 generalize w.heap.size+1=mb at *
 generalize ρ.put mb (30,0)=ρ1 at *
 generalize w.heap.size=Xb at *
 have HF1:Hd (Fresh W ρ1):=⟨HS0.out.fresh HFR.out⟩
 go_loopw [13] (fun vk wr=>∃ (k:Nat) (m1:Mt),vk= .int .i64 k∧k≤p.datas.length∧mDats ⟨0,false⟩ p.datas=mDats m1 (p.datas.drop k)∧m1.nodes+szDs (p.datas.drop k)+szFs p.funs≤1000000∧MtR wr ρ1 mb m1∧Step MtT W ρ1 wr ρ1) (fun v _=>p.datas.length-(intOf v).toNat)
 case atStart=>exact ⟨0,⟨0,false⟩,by simp,by omega,by simp,by simp;omega,HM0.out,Step.refl _ _ _⟩
 case round =>
  obtain ⟨k,m1,rfl,hk,he,hq,hM,hS⟩:=hrel
  have HE:=Hd.mk he
  have HS:=Hd.mk hS
  have HM:=Hd.mk hM
  clear he hS hM hsz
  by_cases hlt:k<p.datas.length
  ·obtain ⟨b1,o1,A4,c4,A5,c5,hA,_,hT,q0,q1,q2⟩:=(HT1.out.step (HS0.out.mono (T':=MtT) (fun _ h=>h.elim) |>.trans HS.out)).elem (List.getElem?_eq_getElem hlt)
   subst hA
   have hdr:=drop_cons (List.getElem?_eq_getElem hlt)
   generalize p.datas[k]=t at *
   have hE:=HE.out
   rw [hdr,mDats] at hE
   rw [hdr,szDs] at hq
   obtain ⟨A5',c5',hv5,hlc5,hcm5⟩:=SlR.form hT
   cases hv5
   have hlen5:t.cons.length≤9223372036854775807:=by unfold maxLen at hcm5;omega
   obtain ⟨m2,hm2⟩:∃ z,mCons m1 t.cons=z:=⟨_,rfl⟩
   rw [hm2] at hE
   have HM2:=Hd.mk hm2
   have HE2:=Hd.mk hE
   have HTC:=Hd.mk hT
   have hle:=mCons_le m1 t.cons
   rw [hm2] at hle
   have HSu:=Hd.mk ((Step.refl (fun _=>False) wr ρ1).alloc (.cells #[.string t.name, .slice A4 t.vars.length c4, .slice A5 t.cons.length c5] 73))
   clear hT hdr hE HE hm2 hlc5 hcm5
   go_wp2_with fail
   generalize wr.alloc (.cells #[.string t.name, .slice A4 t.vars.length c4, .slice A5 t.cons.length c5] 73)=V1 at *
   have HMv:=Hd.mk (HM.out.step HSu.out (fun h=>h))
   have HSv:=Hd.mk (HS.out.trans (HSu.out.mono (fun _ h=>h.elim)))
   have HTv:=Hd.mk (HTC.out.step HSu.out)
   clear q0 q1 q2
   go_loopw [20] (fun vi wr=>∃ (i:Nat) (m3:Mt),vi= .int .i64 i∧i≤t.cons.length∧mCons m1 t.cons=mCons m3 (t.cons.drop i)∧m3.nodes+szCs (t.cons.drop i)+szDs (p.datas.drop (k+1))+szFs p.funs≤1000000∧MtR wr ρ1 mb m3∧Step MtT V1 ρ1 wr ρ1) (fun v _=>t.cons.length-(intOf v).toNat)
   case atStart=>exact ⟨0,m1,by simp,by omega,by simp,by simp;omega,HMv.out,Step.refl _ _ _⟩
   case round =>
    obtain ⟨i,m3,rfl,hi,hei,hqi,hMi,hSi⟩:=hrel
    have HEi:=Hd.mk hei
    have HSi:=Hd.mk hSi
    have HMi:=Hd.mk hMi
    clear hei hSi hMi hq hle
    by_cases hlti:i<t.cons.length
    ·obtain ⟨b2,o2,A6,c6,hA,hTf,_,r0,r1⟩:=(HTv.out.step HSi.out).elem (List.getElem?_eq_getElem hlti)
     subst hA
     have hdr:=drop_cons (List.getElem?_eq_getElem hlti)
     generalize t.cons[i]=cc at *
     have hE:=HEi.out
     rw [hdr,mCons] at hE
     rw [hdr,szCs] at hqi
     obtain ⟨m4,hm4⟩:∃ z,mTys m3 1 cc.fields=z:=⟨_,rfl⟩
     rw [hm4] at hE
     have hle:=mTys_le m3 1 cc.fields
     rw [hm4] at hle
     have HE3:=Hd.mk hE
     have HSw:=Hd.mk ((Step.refl (fun _=>False) wr ρ1).alloc (.cells #[.string cc.name, .slice A6 cc.fields.length c6] 80))
     have HTf:=Hd.mk hTf
     have HM4:=Hd.mk hm4
     clear hTf hdr hE HEi hm4
     go_wp2_with fail
     generalize wr.alloc (.cells #[.string cc.name, .slice A6 cc.fields.length c6] 80)=V2 at *
     have hc:=mtypes_any n V2 ρ1 mb m3 1 cc.fields A6 c6 (HTf.out.step HSw.out) (HMi.out.step HSw.out (fun h=>h)) (((HSv.out.trans HSi.out).trans (HSw.out.mono (fun _ h=>h.elim))).fresh HF1.out) (by omega) (by omega)
     rw [HM4.out] at hc
     refine hc.mono ?_
     clear hc r0 r1
     rintro e V3 ⟨rfl,M5,S5⟩
     have HM5:=Hd.mk M5
     have HS5:=Hd.mk ((HSi.out.trans (HSw.out.mono (fun _ h=>h.elim))).trans S5)
     clear M5 S5
     go_wp2
     go_roundw
     case rel=>exact ⟨i+1,m4,by go_num,by omega,HE3.out,by omega,HM5.out,HS5.out⟩
     case measure=>simp [intOf];omega
    ·have hie:i=t.cons.length:=by omega
     subst hie
     have hE9:=HEi.out
     rw [List.drop_length,mCons,HM2.out] at hE9
     rw [List.drop_length,szCs] at hqi
     subst hE9
     go_wp2
     go_roundw
     case rel=>exact ⟨k+1,m2,by go_num,by omega,HE2.out,by omega,HMi.out,HSv.out.trans HSi.out⟩
     case measure=>simp [intOf];omega
  ·have hke:k=p.datas.length:=by omega
   subst hke
   have hE9:=HE.out
   rw [List.drop_length,mDats] at hE9
   rw [List.drop_length,szDs] at hq
   have HE9:=Hd.mk hE9
   have HX:=Hd.mk (HS.out.blk0 X.out XN.out).1
   have x2:=HX.out.cell (i:=2) rfl
   have HSg:=Hd.mk HS.out
   have HMg:=Hd.mk HM.out
   clear hE9 HE HS HM
   generalize wr=Wq at *
   go_wp2_with fail
   clear x2
   go_loopw [32] (fun vk wr=>∃ (k:Nat) (m2:Mt),vk= .int .i64 k∧k≤p.funs.length∧mFuns m1 p.funs=mFuns m2 (p.funs.drop k)∧m2.nodes+szFs (p.funs.drop k)≤1000000∧MtR wr ρ1 mb m2∧Step MtT Wq ρ1 wr ρ1) (fun v _=>p.funs.length-(intOf v).toNat)
   case atStart=>exact ⟨0,m1,by simp,by omega,by simp,by simp;omega,HMg.out,Step.refl _ _ _⟩
   case round =>
    obtain ⟨k,m2,rfl,hk,he,hq2,hM,hS⟩:=hrel
    have HE:=Hd.mk he
    have HS:=Hd.mk hS
    have HM:=Hd.mk hM
    clear he hS hM hq
    by_cases hlt:k<p.funs.length
    ·obtain ⟨b,o,e1,e2,vp,va0,r1,r2,vb,vs,hA,hV,hc⟩:=(HT3.out.step ((HS0.out.mono (T':=MtT) (fun _ h=>h.elim) |>.trans HSg.out).trans HS.out)).elem (List.getElem?_eq_getElem hlt)
     subst hA
     have hdr:=drop_cons (List.getElem?_eq_getElem hlt)
     generalize p.funs[k]=f at *
     obtain ⟨_,_,_,_,_,hty,_,_,_,_,hy0,hy1,hy2⟩:=TyR.shape hV.result
     simp only [List.cons.injEq,and_true,true_and] at hty
     obtain ⟨rfl,rfl,rfl⟩:=hty
     obtain ⟨_,_,_,_,hbd,_,_,hy5,hy6⟩:=BkR.shape hV.body
     simp only [List.cons.injEq,and_true,true_and] at hbd
     obtain ⟨rfl,rfl⟩:=hbd
     have hy3:=hV.t1
     have hy4:=hV.t2
     have hy7:=hV.params
     obtain ⟨a0,k0,rfl,hl0,hm0⟩:=SlR.form hy3
     obtain ⟨a1,k1,rfl,hl1,hm1⟩:=SlR.form hy4
     obtain ⟨a2,k2,rfl,hl2,hm2⟩:=SlR.form hy7
     obtain ⟨a3,k3,rfl,hl3,hm3⟩:=SlR.form hy0
     obtain ⟨a4,k4,rfl,hl4,hm4⟩:=SlR.form hy1
     obtain ⟨a5,k5,rfl,hl5,hm5⟩:=SlR.form hy2
     obtain ⟨a6,k6,rfl,hl6,hm6⟩:=SlR.form hy5
     obtain ⟨a7,k7,rfl,hl7,hm7⟩:=SlR.form hy6
     clear hy0 hy1 hy2 hy3 hy4 hy5 hy6 hy7 hl0 hm0 hl1 hm1 hl2 hm2 hl3 hm3 hl4 hm4 hl5 hm5 hl6 hm6 hl7 hm7
     have HV:=Hd.mk hV
     have hE:=HE.out
     rw [hdr,mFuns_cons] at hE
     rw [hdr,szFs,szF] at hq2
     have HE2:=Hd.mk hE
     have HXN0:Hd (ρ1 wr.heap.size=none):=⟨(HSg.out.trans HS.out).fresh HF1.out _ (Nat.le_refl _)⟩
     clear hdr hE HE hV
     have hin:(Try.prog.info? 48).map (·.size)=some 19:=by kernel_rfl
     generalize hcs:fuCells f _ _ _ _ _ _ _ _=cs at hc
     have hcl:cs.length=19:=by rw [←hcs];rfl
     have hone:cs.toArray.all (·.oneCell')=true:=by rw [←hcs];exact fuCells_one ..
     have hin2:(Try.prog.info? 48).map (·.size)=some cs.length:=by rw [hcl];exact hin
     have HSZ:Hd (cs.toArray.size=19):=⟨by rw [List.size_toArray,hcl]⟩
     have HCC:Hd (wr.rangeAt b (o+k*19) cs):=⟨hc⟩
     have HIN:=Hd.mk hin2
     have HON:=Hd.mk hone
     have HS1:=Hd.mk ((Step.refl (fun _=>False) wr ρ1).alloc (.cells cs.toArray 48))
     have XS0:=Hd.mk (Blk.new' wr cs.toArray 48)
     have HCS:=Hd.mk hcs
     clear hc hin hone hcs hin2
     go_wp2_with (first|(refine wpList_load_mid rfl 48 _ rfl b (o+k*19) rfl cs _ HCC.out Try.underlying48 rfl HIN.out ?_)|(refine wpList_store_new rfl 48 _ _ rfl _ cs.toArray rfl rfl (by rw [List.size_toArray];exact HIN.out) (Eq.trans rfl HSZ.out.symm) HON.out ?_))
     generalize wr.alloc (.cells cs.toArray 48)=W1 at *
     generalize wr.heap.size=Xs at *
     have xs0:Blk W1 Xs 48 cs:=XS0.out
     rw [←HCS.out] at xs0
     have XS:=Hd.mk xs0
     clear xs0
     have HXN:Hd (ρ1 Xs=none):=HXN0
     have hpos:=HM.out
     have HMa:=Hd.mk (HM.out.step HS1.out (fun h=>h))
     have HG:=Hd.mk ((HSg.out.trans HS.out).trans (HS1.out.mono (fun _ h=>h.elim):Step MtT wr ρ1 W1 ρ1))
     clear hpos
     refine (node_any W1 ρ1 mb m2 0 HMa.out (by omega) (by omega)).mono ?_
     rintro e W2 ⟨rfl,M2,S2⟩
     have hnn:(m2.node 0).nodes=m2.nodes+1:=rfl
     have h1:szTs [f.result]=szT f.result+0:=rfl
     have hle1:=mTys_le (m2.node 0) 1 f.params
     have hle2:=mTys_le (mTys (m2.node 0) 1 f.params) 1 [f.result]
     have hle3:=mBk_le (mTys (mTys (m2.node 0) 1 f.params) 1 [f.result]) 1 f.body
     have hE3:=HE2.out
     unfold mFun at hE3
     obtain ⟨ma,hma⟩:∃ z,m2.node 0=z:=⟨_,rfl⟩
     rw [hma] at M2 hnn hle1 hle2 hle3 hE3
     obtain ⟨mc,hmc⟩:∃ z,mTys ma 1 f.params=z:=⟨_,rfl⟩
     rw [hmc] at hle1 hle2 hle3 hE3
     obtain ⟨md,hmd⟩:∃ z,mTys mc 1 [f.result]=z:=⟨_,rfl⟩
     rw [hmd] at hle2 hle3 hE3
     obtain ⟨me,hme⟩:∃ z,mBk md 1 f.body=z:=⟨_,rfl⟩
     rw [hme] at hle3 hE3
     have HMC:=Hd.mk hmc
     have HMD:=Hd.mk hmd
     have HME:=Hd.mk hme
     have HE3:=Hd.mk hE3
     have HMb:=Hd.mk M2
     have HSb:=Hd.mk ((HS1.out.mono (fun _ h=>h.elim):Step MtT wr ρ1 W1 ρ1).trans S2)
     have XS2:=Hd.mk (S2.blk0 XS.out HXN.out).1
     have z7:W2.cell? ⟨Xs,7,none⟩=some (.slice a2 f.params.length k2):=XS2.out.cell (i:=7) rfl
     clear M2 S2 HMa hma hmc hmd hme hE3 HE2
     go_wp2_with fail
     have hc1:=mtypes_any n W2 ρ1 mb ma 1 f.params a2 k2 (HV.out.step HSb.out).params HMb.out (((HSg.out.trans HS.out).trans HSb.out).fresh HF1.out) (by omega) (by omega)
     rw [HMC.out] at hc1
     refine hc1.mono ?_
     clear hc1 z7
     rintro e W3 ⟨rfl,M3,S3⟩
     have HM3:=Hd.mk M3
     have HS3:=Hd.mk (HSb.out.trans S3)
     have XS3:=Hd.mk (S3.blk0 XS2.out HXN.out).1
     clear M3 S3
     have d8:W3.cell? ⟨Xs,8,none⟩=some (.int .i64 f.result.kind):=XS3.out.cell (i:=8) rfl
     have d9:W3.cell? ⟨Xs,9,none⟩=some (.int .i64 f.result.n):=XS3.out.cell (i:=9) rfl
     have d10:W3.cell? ⟨Xs,10,none⟩=some (.string f.result.name):=XS3.out.cell (i:=10) rfl
     have d11:W3.cell? ⟨Xs,11,none⟩=some (.slice a3 f.result.args.length k3):=XS3.out.cell (i:=11) rfl
     have d12:W3.cell? ⟨Xs,12,none⟩=some (.int .i64 f.result.region):=XS3.out.cell (i:=12) rfl
     have d13:W3.cell? ⟨Xs,13,none⟩=some (.slice a4 f.result.eff.regs.length k4):=XS3.out.cell (i:=13) rfl
     have d14:W3.cell? ⟨Xs,14,none⟩=some (.slice a5 f.result.eff.vars.length k5):=XS3.out.cell (i:=14) rfl
     have HSc:=Hd.mk (HS3.out.alloc (.cells #[.int .i64 f.result.kind, .int .i64 f.result.n, .string f.result.name, .slice a3 f.result.args.length k3, .int .i64 f.result.region, .slice a4 f.result.eff.regs.length k4, .slice a5 f.result.eff.vars.length k5] 43))
     have XO:=Hd.mk (Blk.new' W3 #[.int .i64 f.result.kind, .int .i64 f.result.n, .string f.result.name, .slice a3 f.result.args.length k3, .int .i64 f.result.region, .slice a4 f.result.eff.regs.length k4, .slice a5 f.result.eff.vars.length k5] 43)
     have XON:Hd (ρ1 W3.heap.size=none):=⟨((HSg.out.trans HS.out).trans HS3.out).fresh HF1.out _ (Nat.le_refl _)⟩
     have HMc:=Hd.mk (HM3.out.step ((Step.refl (fun _=>False) W3 ρ1).alloc (.cells #[.int .i64 f.result.kind, .int .i64 f.result.n, .string f.result.name, .slice a3 f.result.args.length k3, .int .i64 f.result.region, .slice a4 f.result.eff.regs.length k4, .slice a5 f.result.eff.vars.length k5] 43)) (fun h=>h))
     have XS4:=Hd.mk (XS3.out.alloc (.cells #[.int .i64 f.result.kind, .int .i64 f.result.n, .string f.result.name, .slice a3 f.result.args.length k3, .int .i64 f.result.region, .slice a4 f.result.eff.regs.length k4, .slice a5 f.result.eff.vars.length k5] 43))
     go_wp2_with fail
     clear d8 d9 d10 d11 d12 d13 d14
     generalize W3.alloc (.cells #[.int .i64 f.result.kind, .int .i64 f.result.n, .string f.result.name, .slice a3 f.result.args.length k3, .int .i64 f.result.region, .slice a4 f.result.eff.regs.length k4, .slice a5 f.result.eff.vars.length k5] 43)=W4 at *
     generalize W3.heap.size=Xo at *
     have hone:=TysR.one (t:=f.result) XO.out XON.out (HV.out.step HSc.out).result
     have hc2:=mtypes_any n W4 ρ1 mb mc 1 [f.result] (some ⟨Xo,0,none⟩) 1 hone HMc.out (((HSg.out.trans HS.out).trans HSc.out).fresh HF1.out) (by omega) (by omega)
     rw [HMD.out] at hc2
     refine hc2.mono ?_
     clear hc2 hone
     rintro e W5 ⟨rfl,M5,S5⟩
     have HM5:=Hd.mk M5
     have HS5:=Hd.mk (HSc.out.trans S5)
     have XS5:=Hd.mk (S5.blk0 XS4.out HXN.out).1
     have z15:W5.cell? ⟨Xs,15,none⟩=some (.int .i64 f.body.code):=XS5.out.cell (i:=15) rfl
     have z16:W5.cell? ⟨Xs,16,none⟩=some (.slice a6 f.body.bind.length k6):=XS5.out.cell (i:=16) rfl
     have z17:W5.cell? ⟨Xs,17,none⟩=some (.slice a7 f.body.steps.length k7):=XS5.out.cell (i:=17) rfl
     have z18:W5.cell? ⟨Xs,18,none⟩=some (.int .i64 f.body.value):=XS5.out.cell (i:=18) rfl
     clear M5 S5
     go_wp2_with fail
     have hc3:=mblock_any n W5 ρ1 mb md 1 f.body _ _ (HV.out.step HS5.out).body HM5.out (((HSg.out.trans HS.out).trans HS5.out).fresh HF1.out) (by omega) (by omega)
     rw [HME.out] at hc3
     refine hc3.mono ?_
     clear hc3 z15 z16 z17 z18
     rintro e W6 ⟨rfl,M6,S6⟩
     have HM6:=Hd.mk M6
     have HS6:=Hd.mk (HS5.out.trans S6)
     have y1:=M6.blk.cell (i:=1) rfl
     clear M6 S6
     cases hbg:me.big with
     |true =>
      rw [hbg] at y1
      have hE4:=HE3.out
      rw [if_pos hbg] at hE4
      have HE4:=Hd.mk hE4
      have HBG:=Hd.mk hbg
      clear hE4 hbg
      go_wp2
      go_ret
      exact ⟨by rw [←HBR.out,bigP,HE9.out,HE4.out,HBG.out];rfl,(HS0.out.mono (T':=MtT) (fun _ h=>h.elim) |>.trans HSg.out |>.trans HS.out |>.trans HS6.out).belowT HNO.out⟩
     |false =>
      rw [hbg] at y1
      have hE4:=HE3.out
      rw [if_neg (by rw [hbg];simp)] at hE4
      have HE4:=Hd.mk hE4
      clear hE4 hbg
      go_wp2
      go_roundw
      case rel=>exact ⟨k+1,me,by go_num,by omega,HE4.out,by omega,HM6.out,HS.out.trans HS6.out⟩
      case measure=>simp [intOf];omega
    ·have hke:k=p.funs.length:=by omega
     subst hke
     have hE:=HE.out
     rw [List.drop_length,mFuns] at hE
     have HE3:=Hd.mk hE
     have z1:=HM.out.blk.cell (i:=1) rfl
     clear hE HE
     go_wp2
     go_ret
     exact ⟨by rw [←HBR.out,bigP,HE9.out,HE3.out];rfl,(HS0.out.mono (T':=MtT) (fun _ h=>h.elim) |>.trans HSg.out |>.trans HS.out).belowT HNO.out⟩
end
section
open Go Go.RowKit
theorem sameL_len:∀ (a b:List Ty),a.length≠b.length→sameL a b=false
 |[],[],h=>absurd rfl h
 |[],_ :: _,_=>by rw [sameL] <;> simp
 |_ :: _,[],_=>by rw [sameL] <;> simp
 |a :: l,b :: m,h=>by
  rw [sameL,sameL_len l m (by simpa using h),Bool.and_false]
theorem same1_eq (a b:Ty):same1 a b=(decide (a.kind=b.kind) && decide (a.n=b.n) && sameL a.args b.args):=by cases a;rfl
theorem sameL_drop {a b:List Ty} {k:Nat} {x y:Ty} (ha:a[k]? =some x) (hb:b[k]? =some y):sameL (a.drop k) (b.drop k)=(same1 x y && sameL (a.drop (k+1)) (b.drop (k+1))):=by
 rw [drop_cons ha,drop_cons hb,sameL]
def Drawn (w w':World):Prop:=∃ n,w'=w.drewN n
theorem World.drewN_add (w:World) (n m:Nat):(w.drewN n).drewN m=w.drewN (n+m):=by
 induction m with
 |zero=>rfl
 |succ m ih =>
  show ((w.drewN n).drewN m).drew=(w.drewN (n+m)).drew
  rw [ih]
theorem Drawn.refl (w:World):Drawn w w:=⟨0,rfl⟩
theorem Drawn.drewN {w w':World} (h:Drawn w w') (m:Nat):Drawn w (w'.drewN m):=by
 obtain ⟨n,rfl⟩:=h
 exact ⟨n+m,World.drewN_add w n m⟩
theorem Drawn.trans {w w' w'':World} (h:Drawn w w') (k:Drawn w' w''):Drawn w w'':=by
 obtain ⟨m,rfl⟩:=k
 exact h.drewN m
theorem Drawn.step {w w':World} (h:Drawn w w') (ρ:Ghost):Step (fun _=>False) w ρ w' ρ:=by
 obtain ⟨n,rfl⟩:=h
 exact (Step.refl _ w ρ).drewN n
theorem same_any (n:Nat):∀ (n2:Nat) (w:World) (ρ:Ghost) (a b:List Ty) (A B:Option Addr) (ca cb:Nat),TysR w ρ n (.slice A a.length ca) a→TysR w ρ n2 (.slice B b.length cb) b →
 Calls Try.prog 28 #[.slice A a.length ca, .slice B b.length cb] w fun e w'=>e= .returned (.bool (sameL a b))∧Drawn w w':=by
 induction n using Nat.strongRecOn with
 |ind n ih =>
  intro n2 w ρ a b A B ca cb hA hB
  obtain ⟨A',c',hv,hlc,hcm⟩:=SlR.form hA
  cases hv
  obtain ⟨B',d',hv,hld,hdm⟩:=SlR.form hB
  cases hv
  have hlen:a.length≤9223372036854775807:=by unfold maxLen at hcm;omega
  have HA:=Hd.mk hA
  have HB:=Hd.mk hB
  have HIH:=Hd.mk ih
  obtain ⟨r,hr⟩:∃ z,sameL a b=z:=⟨_,rfl⟩
  rw [hr]
  have HR:=Hd.mk hr
  clear hA hB ih hlc hcm hld hdm hr
  by_cases hne:a.length=b.length
  ·have HL:=Hd.mk hne
   have hnei:((a.length:Nat):Int)=((b.length:Nat):Int):=by omega
   clear hne
   go_enter Try.func28,Try.ntmps28
   go_wp2_with fail
   go_loopw [13] (fun vk wr=>∃ (k:Nat),vk= .int .i64 k∧k≤a.length∧sameL a b=sameL (a.drop k) (b.drop k)∧Drawn w wr) (fun v _=>a.length-(intOf v).toNat)
   case atStart=>exact ⟨0,by simp,by omega,by simp,Drawn.refl _⟩
   case round =>
    obtain ⟨k,rfl,hk,he,hD⟩:=hrel
    have HE:=Hd.mk he
    have HD:=Hd.mk hD
    clear he hD
    by_cases hlt:k<a.length
    ·have hltb:k<b.length:=by have:=HL.out;omega
     obtain ⟨b1,o1,m1,A0,c0,A1,c1,A2,c2,hA1,hm1,hR1,hTa1,hc1⟩:=(HA.out.step (HD.out.step ρ)).elemC (List.getElem?_eq_getElem hlt)
     obtain ⟨b2,o2,m2,B0,d0,B1,d1,B2,d2,hA2,hm2,hR2,hTa2,hc2⟩:=(HB.out.step (HD.out.step ρ)).elemC (List.getElem?_eq_getElem hltb)
     have hdr:=sameL_drop (List.getElem?_eq_getElem hlt) (List.getElem?_eq_getElem hltb)
     subst hA1
     subst hA2
     generalize a[k]=x at *
     generalize b[k]=y at *
     have p0:wr.cell? ⟨b1,o1+k*7,none⟩=some (.int .i64 x.kind):=hc1 0 _ rfl
     have p1:wr.cell? ⟨b1,o1+k*7+1,none⟩=some (.int .i64 x.n):=hc1 1 _ rfl
     have p3:wr.cell? ⟨b1,o1+k*7+3,none⟩=some (.slice A0 x.args.length c0):=hc1 3 _ rfl
     have q0:wr.cell? ⟨b2,o2+k*7,none⟩=some (.int .i64 y.kind):=hc2 0 _ rfl
     have q1:wr.cell? ⟨b2,o2+k*7+1,none⟩=some (.int .i64 y.n):=hc2 1 _ rfl
     have q3:wr.cell? ⟨b2,o2+k*7+3,none⟩=some (.slice B0 y.args.length d0):=hc2 3 _ rfl
     have hE:=HE.out
     rw [hdr,same1_eq] at hE
     have HTa1:=Hd.mk hTa1
     have HTa2:=Hd.mk hTa2
     have hki:(k:Int)<b.length:=by omega
     have hki2:(k:Int)<a.length:=by omega
     have hk0:(0:Int)≤k:=by omega
     clear hR1 hR2 hTa1 hTa2 hc1 hc2 hdr HE hnei
     have HQ:Hd (∀ nn,Calls Try.prog 28 #[.slice A0 x.args.length c0, .slice B0 y.args.length d0] (wr.drewN nn) fun e w''=>e= .returned (.bool (sameL x.args y.args))∧∃ m,w''=wr.drewN m):=⟨fun nn=>by
      have hs:=(Step.refl (fun _=>False) wr ρ).drewN nn
      refine (HIH.out m1 (by omega) m2 (wr.drewN nn) ρ x.args y.args A0 B0 c0 d0 (HTa1.out.step hs) (HTa2.out.step hs)).mono ?_
      rintro e w'' ⟨he,hm⟩
      exact ⟨he,((Drawn.refl wr).drewN nn).trans hm⟩⟩
     obtain ⟨z,hz⟩:∃ z,sameL x.args y.args=z:=⟨_,rfl⟩
     rw [hz] at HQ hE
     clear hz
     generalize x.kind=y0 at *
     generalize y.kind=z0 at *
     generalize x.n=y1 at *
     generalize y.n=z1 at *
     by_cases h0:y0=z0
     ·subst h0
      by_cases h1:y1=z1
      ·subst h1
       cases z with
       |true =>
        simp only [decide_true,Bool.true_and,Bool.and_true] at hE
        have HE2:=Hd.mk hE
        clear hE
        go_wp2_with fail
        go_quiet ((go_at_call 28;exact HQ.out _))
        have HD2:=Hd.mk (HD.out.drewN nq)
        generalize wr.drewN nq=W4 at *
        clear p0 p1 p3 q0 q1 q3
        go_wp2
        go_roundw
        case rel=>exact ⟨k+1,by go_num,by omega,HE2.out,HD2.out⟩
        case measure=>simp [intOf];omega
       |false =>
        simp only [decide_true,Bool.true_and,Bool.false_and] at hE
        have HE2:=Hd.mk hE
        clear hE
        go_wp2_with fail
        go_quiet ((go_at_call 28;exact HQ.out _))
        have HD2:=Hd.mk (HD.out.drewN nq)
        generalize wr.drewN nq=W4 at *
        clear p0 p1 p3 q0 q1 q3
        go_wp2
        go_ret
        exact ⟨by rw [←HR.out,HE2.out];rfl,HD2.out⟩
      ·have hb1:(y1 == z1)=false:=by simpa using h1
       have hb2:(y1 != z1)=true:=by simpa using h1
       have hb3:decide (y1=z1)=false:=by simpa using h1
       have hb4:decide (¬y1=z1)=true:=by simpa using h1
       simp only [h1,decide_true,decide_false,Bool.false_and,Bool.and_false] at hE
       have HE2:=Hd.mk hE
       clear hE
       go_wp2_with fail
       go_quiet ((go_at_call 28;exact HQ.out _))
       have HD2:=Hd.mk (HD.out.drewN nq)
       generalize wr.drewN nq=W4 at *
       clear p0 p1 p3 q0 q1 q3
       go_wp2
       go_ret
       exact ⟨by rw [←HR.out,HE2.out];rfl,HD2.out⟩
     ·have hb0:(y0 == z0)=false:=by simpa using h0
      have hb2:(y0 != z0)=true:=by simpa using h0
      have hb3:decide (y0=z0)=false:=by simpa using h0
      have hb4:decide (¬y0=z0)=true:=by simpa using h0
      simp only [h0,decide_false,Bool.false_and] at hE
      have HE2:=Hd.mk hE
      clear hE
      go_wp2_with fail
      go_quiet ((go_at_call 28;exact HQ.out _))
      have HD2:=Hd.mk (HD.out.drewN nq)
      generalize wr.drewN nq=W4 at *
      clear p0 p1 p3 q0 q1 q3
      go_wp2
      go_ret
      exact ⟨by rw [←HR.out,HE2.out];rfl,HD2.out⟩
    ·have hke:k=a.length:=by omega
     subst hke
     have hE:=HE.out
     have hbl:b.drop a.length=[]:=by rw [HL.out];exact List.drop_length
     rw [List.drop_length,hbl,sameL] at hE
     have HE2:=Hd.mk hE
     have hnl:¬a.length<b.length:=by have:=HL.out;omega
     have hnl2:decide (a.length<b.length)=false:=by simpa using hnl
     clear hE hnei hbl
     go_wp2
     go_ret
     exact ⟨by rw [←HR.out,HE2.out];rfl,HD.out⟩
  ·have hnei:¬((a.length:Nat):Int)=((b.length:Nat):Int):=by omega
   have hF:=sameL_len a b hne
   have HF:=Hd.mk hF
   have hr:=HR.out
   rw [hF] at hr
   subst hr
   clear hne hF
   go_enter Try.func28,Try.ntmps28
   go_wp2
   go_ret
   exact ⟨rfl,Drawn.refl _⟩
end
section
open Go Go.RowKit
theorem wpList_store_newV {P:Program} {ops:Array Oper} {rest:List Oper} {op:Oper} {a:Act} {W:World} {Q:Exit→Act→World→Prop} (hgd:op.guard=none) (ty:TypeId) (x y:Operand) (ho:op.op= .store ty x y) (Z cells:Array Value) (hx:a.eval x= .pointer (some ⟨W.heap.size,0,none⟩)) (hy:a.eval y= .agg cells) (hi:(P.info? ty).map (·.size)=some cells.size) (hz:Z.size=cells.size) (h1:cells.all (·.oneCell')=true) (h:Hd (wpList P ops Q rest (a.put op.dst undef) (W.alloc (.cells cells ty)))):wpList P ops Q (op :: rest) a (W.alloc (.cells Z ty)) :=
 wpList_store_new hgd ty x y ho Z cells hx hy hi hz h1 h.out
theorem size_of_toList {s:ByteArray} (h:s.toList=[]):s.size=0:=by
 rw [ByteArray.toList_eq] at h
 have:=congrArg List.length h
 simpa using this
theorem toList_of_size {s:ByteArray} (h:s.size=0):s.toList=[]:=by
 rw [ByteArray.toList_eq]
 exact List.eq_nil_of_length_eq_zero (by simpa using h)
theorem emptyToList:(⟨#[]⟩:ByteArray).toList=[]:=by rw [ByteArray.toList_eq]
theorem isEmpty_len {α:Type} (l:List α):l.isEmpty=decide (l.length=0):=by cases l <;> simp
theorem empty_any (w:World) (e:Eff) (A B:Option Addr) (ca cb:Nat) :
 Calls Try.prog 25 #[.agg #[.slice A e.regs.length ca, .slice B e.vars.length cb]] w fun r w'=>r= .returned (.bool e.empty)∧Below w.heap.size w w':=by
 obtain ⟨z,hz⟩:∃ z,e.empty=z:=⟨_,rfl⟩
 rw [hz]
 unfold Eff.empty at hz
 rw [isEmpty_len,isEmpty_len] at hz
 generalize e.regs.length=x at *
 generalize e.vars.length=y at *
 have HS0:=Hd.mk ((Step.refl (fun _=>False) w (fun _=>none)).alloc (.cells #[.slice A x ca, .slice B y cb] 40))
 by_cases hx:x=0
 ·subst hx
  by_cases hy:y=0
  ·subst hy
   have:z=true:=by rw [←hz];rfl
   subst this
   clear hz
   go_enter Try.func25,Try.ntmps25
   go_wp2
   go_ret
   exact ⟨rfl,HS0.out.toBelow⟩
  ·have hyi:¬((y:Nat):Int)=0:=by omega
   have hyb:(((y:Nat):Int) == 0)=false:=by simpa using hyi
   have:z=false:=by rw [←hz];simp [hy]
   subst this
   clear hz
   go_enter Try.func25,Try.ntmps25
   go_wp2
   go_ret
   exact ⟨by simp [hy],HS0.out.toBelow⟩
 ·have hxi:¬((x:Nat):Int)=0:=by omega
  have hxb:(((x:Nat):Int) == 0)=false:=by simpa using hxi
  have:z=false:=by rw [←hz];simp [hx]
  subst this
  clear hz
  go_enter Try.func25,Try.ntmps25
  go_wp2
  go_ret
  exact ⟨by simp [hx],HS0.out.toBelow⟩
theorem formedL_drop {ds:List Dat} {vars:Int} {l:List Ty} {k:Nat} {t:Ty} (h:l[k]? =some t):formedL ds vars (l.drop k)=(formed1 ds vars t && formedL ds vars (l.drop (k+1))):=by
 rw [drop_cons h,formedL]
theorem formed1_eq (ds:List Dat) (vars:Int) (t:Ty):formed1 ds vars t=match manyOf ds t.kind t.n t.args.length vars with
 |none=>false
 |some many=> !(decide (t.kind≠3) && decide (t.kind≠4) && decide (t.n≠0)) && decide (t.args.length=many) && decide (t.name.size=0) && decide (t.region=0) && t.eff.empty && formedL ds vars t.args:=by
 cases t;rw [formed1];rfl
end
section
open Go Go.RowKit
theorem height_any (w:World) (b o:Nat) (A:Option Addr) (n c:Nat) (h:w.cell? ⟨b,o,none⟩=some (.slice A n c)) :
 Calls Try.prog 32 #[.pointer (some ⟨b,o,none⟩)] w fun e w'=>e= .returned (.int .i64 n)∧w=w':=by
 go_enter Try.func32,Try.ntmps32
 go_wp2
 go_ret
 exact ⟨rfl,rfl⟩
theorem slice_hI (w:World) (A:Option Addr) (n c k:Nat) (hk:k≤c) (hA:A=none∨∃ g,A=some ⟨g,0,none⟩) :
 (Instr.slice 38 (.slice A n c) none (some (.int .i64 k)) none).run Try.prog w= .ok (.slice A k c) w:=by
 have hsz:∀ w,(sizeOf (Try.prog.elem 38)).run Try.prog w= .ok 1 w:=fun _=>by kernel_rfl
 rw [run_slice_h w 38 _ n c (by kernel_rfl) .i64 k (by omega) (by omega),hsz]
 simp only [Result.andThen_ok,sliced,Int.toNat_natCast,Nat.sub_zero,Nat.zero_mul]
 rcases hA with rfl|⟨g,rfl⟩
 ·congr 2
  split <;> rfl
 ·have hadd:(⟨g,0,none⟩:Addr).add 0=⟨g,0,none⟩:=by unfold Addr.add;simp
  simp only [Option.map_some,hadd]
  congr 2
  split <;> rfl
theorem cut_any (w:World) (b o:Nat) (A:Option Addr) (n c k:Nat) (h:w.cell? ⟨b,o,none⟩=some (.slice A n c)) (hf:w.frozen? ⟨b,o,none⟩=false) (hk:k≤c) (hA:A=none∨∃ g,A=some ⟨g,0,none⟩) :
 Calls Try.prog 33 #[.pointer (some ⟨b,o,none⟩), .int .i64 k] w fun e w'=>e= .returned (.tuple #[])∧w'=w.setCell ⟨b,o,none⟩ (.slice A k c):=by
 have hsl:=slice_hI w A n c k hk hA
 have hki:(k:Int)≤c:=by omega
 have hk0:(0:Int)≤k:=by omega
 have HA:=Hd.mk hA
 clear hA
 go_enter Try.func33,Try.ntmps33
 go_wp2
 go_end0
 exact ⟨rfl,rfl⟩
end
section
open Go Go.RowKit
theorem infoInt:(Try.prog.info? 3).map (fun i=>(i.zero,i.size,i.bytes))=some (some (.int .i64 0),1,8):=by kernel_rfl
theorem push_any (w:World) (ρ:Ghost) (b o:Nat) (tb tg:Tag) (htb:ρ b=some tb) (hne:tb≠tg) (hb:b<w.heap.size) (v:Value) (n:Nat) (xs:List Value) (x:Int) (h:w.cell? ⟨b,o,none⟩=some v) (hf:w.frozen? ⟨b,o,none⟩=false) (hO:OwnSl w ρ tg 3 1 v n xs) (hn:n≤1000000) :
 Calls Try.prog 31 #[.pointer (some ⟨b,o,none⟩), .int .i64 x] w fun e w'=>e= .returned (.tuple #[]) ∧
  ∃ g c w1 ρ1,OwnSl w1 ρ1 tg 3 1 (.slice (some ⟨g,0,none⟩) (n+1) c) (n+1) (xs++[.int .i64 x])∧Step (· =tg) w ρ w1 ρ1∧w'=w1.setCell ⟨b,o,none⟩ (.slice (some ⟨g,0,none⟩) (n+1) c):=by
 obtain ⟨A,c,rfl,_,_⟩:=hO.form
 have HO:=Hd.mk hO
 have HB:Hd (∀ w1 ρ1,Step (· =tg) w ρ w1 ρ1→w1.cell? ⟨b,o,none⟩=w.cell? ⟨b,o,none⟩∧w1.frozen? ⟨b,o,none⟩=w.frozen? ⟨b,o,none⟩):=⟨fun w1 ρ1 hs=>by
  have hbl:=hs.block b hb (fun t ht hT=>by rw [htb] at ht;cases ht;exact hne hT)
  exact ⟨World.cell?_of_block hbl,World.frozen?_of_block hbl⟩⟩
 clear hO
 go_enter Try.func31,Try.ntmps31
 go_wp2_with (at_builtin;refine wpList_append_boxW rfl _ _ _ rfl 3 _ 1 8 Try.underlying38 infoInt rfl (by decide) ρ tg (.slice A n c) n xs [.int .i64 x] rfl HO.out 1 _ rfl (by first|rfl|simp) rfl (by simp [Value.oneCell']) (by unfold maxLen;omega) (by omega) ?z1)
 case z1 =>
 intro v1 W1 ρ1 hO1 hS1
 obtain ⟨g1,c1,rfl,_⟩:=hO1.some (by omega)
 obtain ⟨hc1,hf1⟩:=HB.out W1 ρ1 hS1
 rw [h] at hc1
 rw [hf] at hf1
 have HO1:=Hd.mk hO1
 have HS1:=Hd.mk hS1
 clear hO1 hS1 h hf htb hne
 go_wp2
 go_end0
 exact ⟨rfl,g1,c1,W1,ρ1,HO1.out,HS1.out,rfl⟩
end
end Go.Proofs.Ytadffbgbndibpaa
