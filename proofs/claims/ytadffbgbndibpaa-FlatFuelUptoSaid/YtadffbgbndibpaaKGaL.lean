/- GaL: lemmas and walks of the claim. -/
import Derived.Test.YtadffbgbndibpaaKGaI
set_option linter.unusedVariables false
set_option linter.unusedSimpArgs false
set_option maxHeartbeats 16000000
set_option maxRecDepth 100000
namespace Go.Proofs.Ytadffbgbndibpaa
open Go Go.RowKit
def funR (p:Pg) (f:Fu) (c:CS):Rs CS:=(blockC p f.types c [] 0 f.body).andThen fun r=>if sameL [r.2] [f.result] then .ok r.1 else .no
theorem funC_eq (p:Pg) (f:Fu):funC p f=match paramsC ⟨[],[]⟩ 0 f.params with
 |none=> .no
 |some c=>(funR p f c).andThen fun _=> .ok ():=by
 unfold funC
 cases paramsC ⟨[],[]⟩ 0 f.params with
 |none=>rfl
 |some c =>
  show (blockC p f.types c [] 0 f.body).andThen _=((blockC p f.types c [] 0 f.body).andThen _).andThen _
  cases blockC p f.types c [] 0 f.body with
  |ok r =>
   show (if sameL [r.2] [f.result] then Rs.ok () else Rs.no)=(if sameL [r.2] [f.result] then Rs.ok r.1 else Rs.no).andThen fun _=> .ok ()
   cases sameL [r.2] [f.result] <;> rfl
  |no=>rfl
  |big=>rfl
theorem paramsC_drop {c:CS} {k:Nat} {l:List Ty} {t:Ty} (h:l[k]? =some t):paramsC c k (l.drop k)=(c.bind k t).bind fun c1=>paramsC c1 (k+1) (l.drop (k+1)):=by
 rw [drop_cons h,paramsC]
 cases c.bind k t <;> rfl
theorem function_any (p:Pg) (f:Fu) (nd nf:Nat) (HBC:Hd (∀ N,BlockC p f.types nd N)) (w:World) (ρ:Ghost) (C:Nat) (hd:List Value) (mb:Nat) (a0 a1 a2 a3 a4 a5 a6 a7:Option Addr) (k0 k1 k2 k3 k4 k5 k6 k7:Nat) (hC:CkR (fun t=>formed1 p.datas f.types t=true) w ρ C hd mb ⟨[],[]⟩ false) (hK:CkS w ρ p f.types nd hd) (hV:FuV w ρ nf f (.slice a0 f.touch.regs.length k0) (.slice a1 f.touch.vars.length k1) (.slice a2 f.params.length k2) (.slice a3 f.result.args.length k3) (.slice a4 f.result.eff.regs.length k4) (.slice a5 f.result.eff.vars.length k5) (.slice a6 f.body.bind.length k6) (.slice a7 f.body.steps.length k7)) (hcf:∀ j v,(fuCells f (.slice a0 f.touch.regs.length k0) (.slice a1 f.touch.vars.length k1) (.slice a2 f.params.length k2) (.slice a3 f.result.args.length k3) (.slice a4 f.result.eff.regs.length k4) (.slice a5 f.result.eff.vars.length k5) (.slice a6 f.body.bind.length k6) (.slice a7 f.body.steps.length k7))[j]? =some v→hd[4+j]? =some v) (hfp:formedL p.datas f.types f.params=true) (hfr:Fresh w ρ) (ho:OnlyCk ρ) :
 Calls Try.prog 13 #[.pointer (some ⟨C,0,none⟩)] w fun e w'=>∃ ρ' c',e= .returned (.bool (funC p f).isOk)∧CkR (fun t=>formed1 p.datas f.types t=true) w' ρ' C hd mb c' (funC p f).isBig∧Step CkT w ρ w' ρ'∧OnlyCk ρ':=by
 have hpl:f.params.length≤9223372036854775807:=by
  obtain ⟨_,_,hv,h2,h3⟩:=SlR.form hV.params
  cases hv
  unfold maxLen at h3
  omega
 have HC:=Hd.mk hC
 have HK:=Hd.mk hK
 have HV:=Hd.mk hV
 have HCF:=Hd.mk hcf
 have HFP:=Hd.mk hfp
 have HFR:=Hd.mk hfr
 have HO:=Hd.mk ho
 obtain ⟨r,hr⟩:∃ z,funC p f=z:=⟨_,rfl⟩
 rw [hr]
 have HR:=Hd.mk hr
 have e11:w.cell? ⟨C,11,none⟩=some (.slice a2 f.params.length k2):=hC.cell (hcf 7 _ rfl)
 have HP0:=Hd.mk (CkP.refl hC ho)
 clear hC hK hV hcf hfp hfr ho hr
 go_enter Try.func13,Try.ntmps13
 go_wp2_with fail
 go_loopw [13] (fun vk wr=>∃ (k:Nat) (ck:CS) (ρk:Ghost),vk= .int .i64 k∧k≤f.params.length∧paramsC ⟨[],[]⟩ 0 f.params=paramsC ck k (f.params.drop k)∧CkP (fun t=>formed1 p.datas f.types t=true) w ρ wr ρk C hd mb ⟨[],[]⟩ (.ok ck)) (fun v _=>f.params.length-(intOf v).toNat)
 case atStart=>exact ⟨0,⟨[],[]⟩,ρ,by simp,by omega,by simp,HP0.out⟩
 case round =>
  obtain ⟨k,ck,ρk,rfl,hk,he,hP⟩:=hrel
  have HE:=Hd.mk he
  have HP:=Hd.mk hP
  clear he hP e11
  by_cases hlt:k<f.params.length
  ·have hlti:(k:Int)<((f.params.length:Nat):Int):=by omega
   have hk0:(0:Int)≤k:=by omega
   obtain ⟨bN,oN,mN,E0,g0,E1,g1,E2,g2,hNA,hmN,hRN,hTN,hcN⟩:=(HV.out.params.step HP.out.step).elemC (List.getElem?_eq_getElem hlt)
   cases hNA
   have hdr:=paramsC_drop (c:=ck) (List.getElem?_eq_getElem hlt)
   have hFx:=formedL_get HFP.out (List.getElem?_eq_getElem hlt)
   generalize f.params[k]=x at *
   have q0:wr.cell? ⟨bN,oN+k*7,none⟩=some (.int .i64 x.kind):=hcN 0 _ rfl
   have q1:wr.cell? ⟨bN,oN+k*7+1,none⟩=some (.int .i64 x.n):=hcN 1 _ rfl
   have q2:wr.cell? ⟨bN,oN+k*7+2,none⟩=some (.string x.name):=hcN 2 _ rfl
   have q3:wr.cell? ⟨bN,oN+k*7+3,none⟩=some (.slice E0 x.args.length g0):=hcN 3 _ rfl
   have q4:wr.cell? ⟨bN,oN+k*7+4,none⟩=some (.int .i64 x.region):=hcN 4 _ rfl
   have q5:wr.cell? ⟨bN,oN+k*7+5,none⟩=some (.slice E1 x.eff.regs.length g1):=hcN 5 _ rfl
   have q6:wr.cell? ⟨bN,oN+k*7+6,none⟩=some (.slice E2 x.eff.vars.length g2):=hcN 6 _ rfl
   have lN:bN<wr.heap.size:=World.block_lt_of_cell? wr ⟨bN,_,none⟩ q0
   have hs4:=(Step.refl (fun _=>False) wr ρk).alloc (.cells #[.int .i64 x.kind, .int .i64 x.n, .string x.name, .slice E0 x.args.length g0, .int .i64 x.region, .slice E1 x.eff.regs.length g1, .slice E2 x.eff.vars.length g2] 43)
   have hE2:=HE.out.trans hdr
   have hcall:=bind_ck (fun t=>formed1 p.datas f.types t=true) (wr.alloc (.cells #[.int .i64 x.kind, .int .i64 x.n, .string x.name, .slice E0 x.args.length g0, .int .i64 x.region, .slice E1 x.eff.regs.length g1, .slice E2 x.eff.vars.length g2] 43)) ρk C hd mb ck k x E0 E1 E2 g0 g1 g2 (HP.out.ck.step hs4 (fun _ _ h=>h)) HP.out.only (by constructor <;> omega) ⟨_,TyR.step hs4 _ hRN⟩ hFx
   obtain ⟨rb,hrb⟩:∃ z,ck.bind k x=z:=⟨_,rfl⟩
   rw [hrb] at hcall hE2
   have HE3:=Hd.mk hE2
   have HCALL:=Hd.mk hcall
   have HPA:=Hd.mk (HP.out.after hs4)
   clear hRN hTN hcN hmN hdr hFx hcall hrb hE2 HE hs4
   go_wp2_with fail
   refine HCALL.out.mono ?_
   rintro e W5 ⟨ρ5,rfl,hP5⟩
   have HP5:=Hd.mk (HPA.out.andThen hP5)
   clear hP5 q0 q1 q2 q3 q4 q5 q6 lN HCALL
   cases rb with
   |none =>
    have hrr:r= .no:=by rw [←HR.out,funC_eq,HE3.out];rfl
    subst hrr
    go_wp2
    go_ret
    obtain ⟨c',h1,_,_⟩:=HP5.out.st
    exact ⟨ρ5,c',rfl,h1,HP5.out.step,HP5.out.only⟩
   |some c1 =>
    have HE4:Hd (paramsC ⟨[],[]⟩ 0 f.params=paramsC c1 (k+1) (f.params.drop (k+1))):=⟨HE3.out⟩
    go_wp2
    go_roundw
    case rel=>exact ⟨k+1,c1,ρ5,by go_num,by omega,HE4.out,HP5.out⟩
    case measure=>simp [intOf];omega
  ·have hke:k=f.params.length:=by omega
   subst hke
   have hE:=HE.out
   rw [List.drop_length,paramsC] at hE
   have hrv:=HR.out
   rw [funC_eq,hE] at hrv
   have HRV:=Hd.mk hrv
   have hcr:=HP.out.ck
   have HFVk:=Hd.mk (HV.out.step HP.out.step)
   have c19:wr.cell? ⟨C,19,none⟩=some (.int .i64 f.body.code):=hcr.cell (HCF.out 15 _ rfl)
   have c20:wr.cell? ⟨C,20,none⟩=some (.slice a6 f.body.bind.length k6):=hcr.cell (HCF.out 16 _ rfl)
   have c21:wr.cell? ⟨C,21,none⟩=some (.slice a7 f.body.steps.length k7):=hcr.cell (HCF.out 17 _ rfl)
   have c22:wr.cell? ⟨C,22,none⟩=some (.int .i64 f.body.value):=hcr.cell (HCF.out 18 _ rfl)
   obtain ⟨nb,hnb⟩:∃ z,nf=z:=⟨_,rfl⟩
   have HBD:Hd (BkR wr ρk nb f.body [.int .i64 f.body.code, .slice a6 f.body.bind.length k6, .slice a7 f.body.steps.length k7, .int .i64 f.body.value]):=⟨by rw [←hnb];exact HFVk.out.body⟩
   clear hnb
   have hcall:=HBC.out nb wr ρk C hd mb ck f.body a6 a7 k6 k7 [] none 0 0 0 hcr (HK.out.step HP.out.step) HBD.out (SlR.nil _ _ _ _ _) (fun t h=>by cases h) (HP.out.step.fresh HFR.out) HP.out.only ⟨by decide,by decide⟩
   obtain ⟨rb,hrb⟩:∃ z,blockC p f.types ck [] 0 f.body=z:=⟨_,rfl⟩
   rw [hrb] at hcall
   have HRB:=Hd.mk hrb
   have HCALL:=Hd.mk hcall
   have lC:=hcr.lt
   clear hcall hrb hE hrv hcr HE
   go_wp2_with fail
   refine HCALL.out.mono ?_
   rintro e W5 ⟨ρ5,tn,D0,D1,D2,d0,d1,d2,rfl,⟨nt,hTn⟩,hok,hP5⟩
   have HP5:=Hd.mk (HP.out.andThen hP5)
   have HTN:=Hd.mk hTn
   have HOK:=Hd.mk hok
   clear hTn hok hP5 HCALL c19 c20 c21 c22 lC
   cases rb with
   |no =>
    have hrr:r= .no:=by rw [←HRV.out];unfold funR;rw [HRB.out];rfl
    subst hrr
    simp only [Rs.isOk]
    go_wp2
    go_quiet (skip)
    have HPQ:=Hd.mk (HP5.out.after ((((Step.refl (fun _=>False) W5 ρ5).alloc (.cells #[.int .i64 tn.kind, .int .i64 tn.n, .string tn.name, .slice D0 tn.args.length d0, .int .i64 tn.region, .slice D1 tn.eff.regs.length d1, .slice D2 tn.eff.vars.length d2] 43))).drewN nq))
    generalize World.drewN _ nq=Wq at *
    go_wp2
    go_ret
    obtain ⟨c',h1,_,_⟩:=HPQ.out.st
    exact ⟨ρ5,c',rfl,h1,HPQ.out.step,HPQ.out.only⟩
   |big =>
    have hrr:r= .big:=by rw [←HRV.out];unfold funR;rw [HRB.out];rfl
    subst hrr
    simp only [Rs.isOk]
    go_wp2
    go_quiet (skip)
    have HPQ:=Hd.mk (HP5.out.after ((((Step.refl (fun _=>False) W5 ρ5).alloc (.cells #[.int .i64 tn.kind, .int .i64 tn.n, .string tn.name, .slice D0 tn.args.length d0, .int .i64 tn.region, .slice D1 tn.eff.regs.length d1, .slice D2 tn.eff.vars.length d2] 43))).drewN nq))
    generalize World.drewN _ nq=Wq at *
    go_wp2
    go_ret
    obtain ⟨c',h1,_,_⟩:=HPQ.out.st
    exact ⟨ρ5,c',rfl,h1,HPQ.out.step,HPQ.out.only⟩
   |ok r1 =>
    obtain ⟨e1,hf1⟩:=HOK.out r1 rfl
    obtain ⟨z,hz⟩:∃ z,sameL [tn] [f.result]=z:=⟨_,rfl⟩
    have hrz:r=if z then .ok () else .no:=by
     rw [←HRV.out];unfold funR;rw [HRB.out]
     show (if sameL [r1.2] [f.result] then Rs.ok r1.1 else Rs.no).andThen (fun _=> .ok ())=_
     rw [←e1,hz]
     cases z <;> rfl
    have HRZ:=Hd.mk hrz
    have HZ:=Hd.mk hz
    have HP6:Hd (CkP (fun t=>formed1 p.datas f.types t=true) w ρ W5 ρ5 C hd mb ⟨[],[]⟩ (.ok r1.1)):=HP5
    have hs6:=(Step.refl (fun _=>False) W5 ρ5).alloc (.cells #[.int .i64 tn.kind, .int .i64 tn.n, .string tn.name, .slice D0 tn.args.length d0, .int .i64 tn.region, .slice D1 tn.eff.regs.length d1, .slice D2 tn.eff.vars.length d2] 43)
    have hb6:=Blk.new' W5 #[.int .i64 tn.kind, .int .i64 tn.n, .string tn.name, .slice D0 tn.args.length d0, .int .i64 tn.region, .slice D1 tn.eff.regs.length d1, .slice D2 tn.eff.vars.length d2] 43
    simp only [Rs.isOk]
    clear e1 hf1 hz hrz
    go_wp2_with fail
    generalize W5.alloc (.cells #[.int .i64 tn.kind, .int .i64 tn.n, .string tn.name, .slice D0 tn.args.length d0, .int .i64 tn.region, .slice D1 tn.eff.regs.length d1, .slice D2 tn.eff.vars.length d2] 43)=W6 at *
    generalize W5.heap.size=X6 at *
    have HP7:=Hd.mk (HP6.out.after hs6)
    have HT7:=Hd.mk (TyR.step hs6 _ HTN.out)
    have hb7:Blk W6 X6 43 [.int .i64 tn.kind, .int .i64 tn.n, .string tn.name, .slice D0 tn.args.length d0, .int .i64 tn.region, .slice D1 tn.eff.regs.length d1, .slice D2 tn.eff.vars.length d2]:=hb6
    have HRES:=Hd.mk (TyR.step HP7.out.step _ HV.out.result)
    have hck:=HP7.out.ck
    have HF7:=Hd.mk (HP7.out.step.fresh HFR.out)
    have c12:W6.cell? ⟨C,12,none⟩=some (.int .i64 f.result.kind):=hck.cell (HCF.out 8 _ rfl)
    have c13:W6.cell? ⟨C,13,none⟩=some (.int .i64 f.result.n):=hck.cell (HCF.out 9 _ rfl)
    have c14:W6.cell? ⟨C,14,none⟩=some (.string f.result.name):=hck.cell (HCF.out 10 _ rfl)
    have c15:W6.cell? ⟨C,15,none⟩=some (.slice a3 f.result.args.length k3):=hck.cell (HCF.out 11 _ rfl)
    have c16:W6.cell? ⟨C,16,none⟩=some (.int .i64 f.result.region):=hck.cell (HCF.out 12 _ rfl)
    have c17:W6.cell? ⟨C,17,none⟩=some (.slice a4 f.result.eff.regs.length k4):=hck.cell (HCF.out 13 _ rfl)
    have c18:W6.cell? ⟨C,18,none⟩=some (.slice a5 f.result.eff.vars.length k5):=hck.cell (HCF.out 14 _ rfl)
    have lC:=hck.lt
    have y0:W6.cell? ⟨X6,0,none⟩=some (.int .i64 tn.kind):=hb7.cell (i:=0) rfl
    have y1:W6.cell? ⟨X6,1,none⟩=some (.int .i64 tn.n):=hb7.cell (i:=1) rfl
    have y2:W6.cell? ⟨X6,2,none⟩=some (.string tn.name):=hb7.cell (i:=2) rfl
    have y3:W6.cell? ⟨X6,3,none⟩=some (.slice D0 tn.args.length d0):=hb7.cell (i:=3) rfl
    have y4:W6.cell? ⟨X6,4,none⟩=some (.int .i64 tn.region):=hb7.cell (i:=4) rfl
    have y5:W6.cell? ⟨X6,5,none⟩=some (.slice D1 tn.eff.regs.length d1):=hb7.cell (i:=5) rfl
    have y6:W6.cell? ⟨X6,6,none⟩=some (.slice D2 tn.eff.vars.length d2):=hb7.cell (i:=6) rfl
    have lX:=hb7.lt
    have HSM:Hd (∀ Wc X Y,Step (fun _=>False) W6 ρ5 Wc ρ5→Blk Wc X 43 [.int .i64 tn.kind, .int .i64 tn.n, .string tn.name, .slice D0 tn.args.length d0, .int .i64 tn.region, .slice D1 tn.eff.regs.length d1, .slice D2 tn.eff.vars.length d2]→Blk Wc Y 43 [.int .i64 f.result.kind, .int .i64 f.result.n, .string f.result.name, .slice a3 f.result.args.length k3, .int .i64 f.result.region, .slice a4 f.result.eff.regs.length k4, .slice a5 f.result.eff.vars.length k5]→ρ5 X=none→ρ5 Y=none→Calls Try.prog 28 #[.slice (some ⟨X,0,none⟩) 1 1, .slice (some ⟨Y,0,none⟩) 1 1] Wc fun e w'=>e= .returned (.bool z)∧Step (fun _=>False) W6 ρ5 w' ρ5):=⟨fun Wc X Y hs hX hY h1 h2=>by
     have h:=same_any nt nf Wc ρ5 [tn] [f.result] _ _ _ _ (TysR.one hX h1 (TyR.step hs _ HT7.out)) (TysR.one hY h2 (TyR.step hs _ HRES.out))
     rw [HZ.out] at h
     exact h.mono (fun e w' ⟨h3,h4⟩=>⟨h3,hs.trans (h4.step ρ5)⟩)⟩
    have HFA:Hd (ρ5 W6.heap.size=none):=⟨HF7.out _ (Nat.le_refl _)⟩
    have HFB:Hd (ρ5 (W6.heap.size+1)=none):=⟨HF7.out _ (by omega)⟩
    have HSc:=Hd.mk ((Step.refl (fun _=>False) W6 ρ5).drew)
    clear hb6 hs6 hb7 hck
    go_region_held3 (fun wv=>Step (fun _=>False) W6 ρ5 wv ρ5∧∀ a:Addr,a.block<W6.heap.size→wv.cell? a=W6.cell? a) (with_reducible (first|exact keepS_of HSc.out|exact keepS_of (((Step.refl _ W6 ρ5).alloc _).drew)|exact keepS_of ((((Step.refl _ W6 ρ5).alloc _).alloc _).drew))) (first|(go_at_call 28;with_reducible refine (HSM.out _ _ _ ((((Step.refl _ W6 ρ5).alloc _).alloc _).drew) ((Blk.new W6 [.int .i64 tn.kind, .int .i64 tn.n, .string tn.name, .slice D0 tn.args.length d0, .int .i64 tn.region, .slice D1 tn.eff.regs.length d1, .slice D2 tn.eff.vars.length d2] 43).alloc _).drew (Blk.newAt (size_alloc W6 _) [.int .i64 f.result.kind, .int .i64 f.result.n, .string f.result.name, .slice a3 f.result.args.length k3, .int .i64 f.result.region, .slice a4 f.result.eff.regs.length k4, .slice a5 f.result.eff.vars.length k5] 43).drew HFA.out HFB.out).mono ?_;rintro e Wn ⟨rfl,hs⟩;have HSc:=Hd.mk hs;clear hs)|(go_at_call 28;with_reducible refine (HSM.out _ _ _ ((((Step.refl _ W6 ρ5).alloc _).alloc _).drew) (Blk.newAt (size_alloc W6 _) [.int .i64 tn.kind, .int .i64 tn.n, .string tn.name, .slice D0 tn.args.length d0, .int .i64 tn.region, .slice D1 tn.eff.regs.length d1, .slice D2 tn.eff.vars.length d2] 43).drew ((Blk.new W6 [.int .i64 f.result.kind, .int .i64 f.result.n, .string f.result.name, .slice a3 f.result.args.length k3, .int .i64 f.result.region, .slice a4 f.result.eff.regs.length k4, .slice a5 f.result.eff.vars.length k5] 43).alloc _).drew HFB.out HFA.out).mono ?_;rintro e Wn ⟨rfl,hs⟩;have HSc:=Hd.mk hs;clear hs))
    all_goals (
     cases z with
     |true =>
      have hrr:r= .ok ():=HRZ.out
      subst hrr
      go_wp2
      go_ret
      obtain ⟨c',h1,_,_⟩:=(HP7.out.after HSc.out).st
      first|exact ⟨ρ5,c',rfl,h1,(HP7.out.after HSc.out).step,HP7.out.only⟩|exact ⟨rfl,ρ5,⟨c',h1⟩,(HP7.out.after HSc.out).step,HP7.out.only⟩|exact ⟨ρ5,⟨c',h1⟩,(HP7.out.after HSc.out).step,HP7.out.only⟩
     |false =>
      have hrr:r= .no:=HRZ.out
      subst hrr
      go_wp2
      go_ret
      obtain ⟨c',h1,_,_⟩:=(HP7.out.after HSc.out).st
      first|exact ⟨ρ5,c',rfl,h1,(HP7.out.after HSc.out).step,HP7.out.only⟩|exact ⟨rfl,ρ5,⟨c',h1⟩,(HP7.out.after HSc.out).step,HP7.out.only⟩|exact ⟨ρ5,⟨c',h1⟩,(HP7.out.after HSc.out).step,HP7.out.only⟩)
end Go.Proofs.Ytadffbgbndibpaa
