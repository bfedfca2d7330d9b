/- GaJ, GaM: lemmas and walks of the claim. -/
import Derived.Test.YtadffbgbndibpaaKGaI
import Derived.Test.YtadffbgbndibpaaKFlR
import Derived.Test.YtadffbgbndibpaaKGaE
import Derived.Test.YtadffbgbndibpaaKGaF
set_option linter.unusedVariables false
set_option linter.unusedSimpArgs false
set_option maxHeartbeats 16000000
set_option maxRecDepth 100000
namespace Go.Proofs.Ytadffbgbndibpaa
section
open Go Go.RowKit
def nestedC (p:Pg) (ty:Int) (c:CS) (s:St) (ag:List Ty):Rs CS :=
 if s.op=7 then
  (if ag=[]∧s.blocks.length=1∧s.ty.kind=6 then valuesC p ty c [s.ty.args.take 1] (s.ty.args.getD 1 intT) s.blocks else .no)
 else if s.op=26 then (if sameL ag [boolT]∧s.blocks.length=2 then valuesC p ty c [[],[]] s.ty s.blocks else .no)
 else if s.op=27 then
  (match ag with
   |[a]=>if a.kind=4∧s.blocks.length=(consOf p a.n).length then
    (if bindsFit s.blocks (consOf p a.n) then (match caseBinds a.args (consOf p a.n) with|some bs=>valuesC p ty c bs s.ty s.blocks|none=> .big) else .no)
    else .no
   |_=> .no)
 else
  (if ag=[] then (match s.blocks with
   |b0 :: b1 :: arms=>(blockC p ty c [] 0 b0).andThen fun r=>(blockC p ty r.1 [r.2] 0 b1).andThen fun r1=>if sameL [r1.2] [s.ty] then armsC p ty r1.1 s.ty [] arms else .no
   |_=> .no) else .no)
def stepR (p:Pg) (ty:Int) (c:CS) (s:St):Rs CS :=
 if !(plainStep s && formedL p.datas ty [s.ty] && formedL p.datas ty s.types) then .no
 else match c.all s.args with
 |none=> .no
 |some ag=>(if s.op<26∧s.op≠7∧s.op≠17 then (if typedC p s ag then .ok c else .no) else nestedC p ty c s ag).andThen fun c1=>match c1.bind s.out s.ty with|some c2=> .ok c2|none=> .no
theorem stepC_eq (p:Pg) (ty:Int) (c:CS) (s:St):stepC p ty c s=stepR p ty c s:=by
 obtain ⟨op,out,t,args,int,code,types,effs,regs,modes,region,keep,blocks⟩:=s
 rcases blocks with _|⟨b0,_|⟨b1,arms⟩⟩
 ·kernel_rfl
 ·kernel_rfl
 ·kernel_rfl
def bindK (s:St) (c1:CS):Rs CS:=match c1.bind s.out s.ty with
 |some c2=> .ok c2
 |none=> .no
theorem stepR_some {p:Pg} {ty:Int} {c:CS} {s:St} {ag:List Ty} (h1:plainStep s=true) (h2:formedL p.datas ty [s.ty]=true) (h3:formedL p.datas ty s.types=true) (h4:c.all s.args=some ag) :
 stepR p ty c s=(if s.op<26∧s.op≠7∧s.op≠17 then (if typedC p s ag then .ok c else .no) else nestedC p ty c s ag).andThen (bindK s):=by
 unfold stepR
 rw [h1,h2,h3,h4]
 rfl
def NestedC (p:Pg) (ty:Int) (nd N:Nat):Prop:=∀ (w:World) (ρ:Ghost) (C:Nat) (hd:List Value) (mb:Nat) (c:CS) (n:Nat) (s:St) (S0 S1 S2 S3 S4 S5 S6 S7 S8 S9:Option Addr) (s0 s1 s2 s3 s4 s5 s6 s7 s8 s9:Nat) (ag:List Ty) (G:Option Addr) (cg q:Nat),
 CkR (fun t=>formed1 p.datas ty t=true) w ρ C hd mb c false→CkS w ρ p ty nd hd→n=N→StV w ρ n s (.slice S0 s.ty.args.length s0) (.slice S1 s.ty.eff.regs.length s1) (.slice S2 s.ty.eff.vars.length s2) (.slice S3 s.args.length s3) (.slice S4 s.types.length s4) (.slice S5 s.effs.length s5) (.slice S6 s.regs.length s6) (.slice S7 s.modes.length s7) (.slice S8 s.keep.length s8) (.slice S9 s.blocks.length s9)→TysR w ρ q (.slice G ag.length cg) ag→(∀ t,t ∈ ag→formed1 p.datas ty t=true)→formed1 p.datas ty s.ty=true→0≤s.op→s.op≤27→¬(s.op<26∧s.op≠7∧s.op≠17)→Fresh w ρ→OnlyCk ρ →
 Calls Try.prog 41 #[.pointer (some ⟨C,0,none⟩), .agg (stCells s (.slice S0 s.ty.args.length s0) (.slice S1 s.ty.eff.regs.length s1) (.slice S2 s.ty.eff.vars.length s2) (.slice S3 s.args.length s3) (.slice S4 s.types.length s4) (.slice S5 s.effs.length s5) (.slice S6 s.regs.length s6) (.slice S7 s.modes.length s7) (.slice S8 s.keep.length s8) (.slice S9 s.blocks.length s9)).toArray, .slice G ag.length cg] w fun e w'=>∃ ρ',e= .returned (.bool (nestedC p ty c s ag).isOk)∧CkP (fun t=>formed1 p.datas ty t=true) w ρ w' ρ' C hd mb c (nestedC p ty c s ag)
theorem all_drop {c:CS} {l:List Int} {k:Nat} {v:Int} (h:l[k]? =some v):c.all (l.drop k)=match c.of v,c.all (l.drop (k+1)) with|some t,some m=>some (t :: m)|_,_=>none:=by
 rw [drop_cons h,CS.all]
 rfl
theorem plainStep_op {s:St} (h:plainStep s=true):0≤s.op∧s.op≤27:=by
 unfold plainStep at h
 simp only [Bool.and_eq_true,decide_eq_true_eq] at h
 exact ⟨h.1.1.1.1.1.1.1.1.1.1,h.1.1.1.1.1.1.1.1.1.2⟩
theorem formedL_one {ds:List Dat} {vars:Int} {t:Ty} (h:formedL ds vars [t]=true):formed1 ds vars t=true:=by
 rw [formedL,Bool.and_eq_true] at h
 exact h.1
theorem step_of (p:Pg) (ty:Int) (nd N:Nat) (hty:I64 ty) (hP:HdP p) (HNC:Hd (NestedC p ty nd N)):StepC p ty nd N:=by
 intro w ρ C hd mb c n s S0 S1 S2 S3 S4 S5 S6 S7 S8 S9 s0 s1 s2 s3 s4 s5 s6 s7 s8 s9 hC hK hn hV hfr ho
 subst hn
 have HTY:=Hd.mk hty
 have HHP:=Hd.mk hP
 have HC:=Hd.mk hC
 have HK:=Hd.mk hK
 have HV:=Hd.mk hV
 have HFR:=Hd.mk hfr
 have HO:=Hd.mk ho
 obtain ⟨r,hr⟩:∃ z,stepC p ty c s=z:=⟨_,rfl⟩
 rw [hr]
 have HR:=Hd.mk ((stepC_eq p ty c s).symm.trans hr)
 have HCS:=Hd.mk (Blk.new w (stCells s (.slice S0 s.ty.args.length s0) (.slice S1 s.ty.eff.regs.length s1) (.slice S2 s.ty.eff.vars.length s2) (.slice S3 s.args.length s3) (.slice S4 s.types.length s4) (.slice S5 s.effs.length s5) (.slice S6 s.regs.length s6) (.slice S7 s.modes.length s7) (.slice S8 s.keep.length s8) (.slice S9 s.blocks.length s9)) 94)
 have HS1:=Hd.mk ((Step.refl (fun _=>False) w ρ).alloc (.cells (stCells s (.slice S0 s.ty.args.length s0) (.slice S1 s.ty.eff.regs.length s1) (.slice S2 s.ty.eff.vars.length s2) (.slice S3 s.args.length s3) (.slice S4 s.types.length s4) (.slice S5 s.effs.length s5) (.slice S6 s.regs.length s6) (.slice S7 s.modes.length s7) (.slice S8 s.keep.length s8) (.slice S9 s.blocks.length s9)).toArray 94))
 generalize hcs:(stCells s (.slice S0 s.ty.args.length s0) (.slice S1 s.ty.eff.regs.length s1) (.slice S2 s.ty.eff.vars.length s2) (.slice S3 s.args.length s3) (.slice S4 s.types.length s4) (.slice S5 s.effs.length s5) (.slice S6 s.regs.length s6) (.slice S7 s.modes.length s7) (.slice S8 s.keep.length s8) (.slice S9 s.blocks.length s9))=cs at HCS HS1 ⊢
 have HCE:=Hd.mk hcs
 clear hC hK hV hfr ho hr hcs hty hP
 go_enter Try.func34,Try.ntmps34
 go_wp2_with fail
 have HN3:Hd (ρ w.heap.size=none):=⟨HFR.out _ (Nat.le_refl _)⟩
 have HCW:=Hd.mk (HC.out.step HS1.out (fun _ _ h=>h))
 have HKW:=Hd.mk (HK.out.step HS1.out)
 have HVW:=Hd.mk (HV.out.step HS1.out)
 have HFW:=Hd.mk (HS1.out.fresh HFR.out)
 generalize hX3:w.heap.size=X3 at *
 generalize w.alloc (.cells cs.toArray 94)=W at *
 have HX3:=Hd.mk hX3
 obtain ⟨A1,q1,A2,q2,A3,q3,k0,k1,k2,k6,kD,kF⟩:=HKW.out.out
 have HKD:=Hd.mk kD
 have yC0:W.cell? ⟨C,0,none⟩=some (.slice A1 p.datas.length q1):=HCW.out.cell k0
 have yC6:W.cell? ⟨C,6,none⟩=some (.int .i64 ty):=HCW.out.cell k6
 have lC:C<W.heap.size:=HCW.out.lt
 have l3:=HCS.out.lt
 have e0:W.cell? ⟨X3,0,none⟩=some (.int .i64 s.op):=HCS.out.cell (i:=0) (by rw [←HCE.out];rfl)
 have e1:W.cell? ⟨X3,1,none⟩=some (.int .i64 s.out):=HCS.out.cell (i:=1) (by rw [←HCE.out];rfl)
 have e2:W.cell? ⟨X3,2,none⟩=some (.int .i64 s.ty.kind):=HCS.out.cell (i:=2) (by rw [←HCE.out];rfl)
 have e3:W.cell? ⟨X3,3,none⟩=some (.int .i64 s.ty.n):=HCS.out.cell (i:=3) (by rw [←HCE.out];rfl)
 have e4:W.cell? ⟨X3,4,none⟩=some (.string s.ty.name):=HCS.out.cell (i:=4) (by rw [←HCE.out];rfl)
 have e5:W.cell? ⟨X3,5,none⟩=some (.slice S0 s.ty.args.length s0):=HCS.out.cell (i:=5) (by rw [←HCE.out];rfl)
 have e6:W.cell? ⟨X3,6,none⟩=some (.int .i64 s.ty.region):=HCS.out.cell (i:=6) (by rw [←HCE.out];rfl)
 have e7:W.cell? ⟨X3,7,none⟩=some (.slice S1 s.ty.eff.regs.length s1):=HCS.out.cell (i:=7) (by rw [←HCE.out];rfl)
 have e8:W.cell? ⟨X3,8,none⟩=some (.slice S2 s.ty.eff.vars.length s2):=HCS.out.cell (i:=8) (by rw [←HCE.out];rfl)
 have e9:W.cell? ⟨X3,9,none⟩=some (.slice S3 s.args.length s3):=HCS.out.cell (i:=9) (by rw [←HCE.out];rfl)
 have e10:W.cell? ⟨X3,10,none⟩=some (.int .i64 s.int):=HCS.out.cell (i:=10) (by rw [←HCE.out];rfl)
 have e11:W.cell? ⟨X3,11,none⟩=some (.int .i64 s.code):=HCS.out.cell (i:=11) (by rw [←HCE.out];rfl)
 have e12:W.cell? ⟨X3,12,none⟩=some (.slice S4 s.types.length s4):=HCS.out.cell (i:=12) (by rw [←HCE.out];rfl)
 have e13:W.cell? ⟨X3,13,none⟩=some (.slice S5 s.effs.length s5):=HCS.out.cell (i:=13) (by rw [←HCE.out];rfl)
 have e14:W.cell? ⟨X3,14,none⟩=some (.slice S6 s.regs.length s6):=HCS.out.cell (i:=14) (by rw [←HCE.out];rfl)
 have e15:W.cell? ⟨X3,15,none⟩=some (.slice S7 s.modes.length s7):=HCS.out.cell (i:=15) (by rw [←HCE.out];rfl)
 have e16:W.cell? ⟨X3,16,none⟩=some (.int .i64 s.region):=HCS.out.cell (i:=16) (by rw [←HCE.out];rfl)
 have e17:W.cell? ⟨X3,17,none⟩=some (.slice S8 s.keep.length s8):=HCS.out.cell (i:=17) (by rw [←HCE.out];rfl)
 have e18:W.cell? ⟨X3,18,none⟩=some (.slice S9 s.blocks.length s9):=HCS.out.cell (i:=18) (by rw [←HCE.out];rfl)
 clear k0 k1 k2 k6 kD kF hX3
 have HPL0:Hd (∀ Wc,Calls Try.prog 39 #[.agg cs.toArray] Wc fun r w'=>r= .returned (.bool (plainStep s))∧Below Wc.heap.size Wc w'):=⟨fun Wc=>by
  have h:=plain_any s.op s.int s.code s.region s.types.length s.effs.length s.regs.length s.modes.length s.keep.length s.blocks.length Wc (stCells s (.slice S0 s.ty.args.length s0) (.slice S1 s.ty.eff.regs.length s1) (.slice S2 s.ty.eff.vars.length s2) (.slice S3 s.args.length s3) (.slice S4 s.types.length s4) (.slice S5 s.effs.length s5) (.slice S6 s.regs.length s6) (.slice S7 s.modes.length s7) (.slice S8 s.keep.length s8) (.slice S9 s.blocks.length s9)) S4 S5 S6 S7 S8 S9 s4 s5 s6 s7 s8 s9 rfl (stCells_one ..) rfl rfl rfl rfl rfl rfl rfl rfl rfl rfl
  rw [←plainStep_eq,HCE.out] at h
  exact h⟩
 have HRN:Hd (W.rangeAt X3 0 cs):=⟨fun j u hj=>by rw [Nat.zero_add];exact HCS.out.cell hj⟩
 have HIN:Hd ((Try.prog.info? 94).map (·.size)=some cs.length):=⟨by rw [←HCE.out];kernel_rfl⟩
 obtain ⟨pl,hpl⟩:∃ z,plainStep s=z:=⟨_,rfl⟩
 obtain ⟨f1,hf1⟩:∃ z,formedL p.datas ty [s.ty]=z:=⟨_,rfl⟩
 obtain ⟨f2,hf2⟩:∃ z,formedL p.datas ty s.types=z:=⟨_,rfl⟩
 have HPV:=Hd.mk hpl
 have HPL:Hd (∀ Wc,Calls Try.prog 39 #[.agg cs.toArray] Wc fun r w'=>r= .returned (.bool pl)∧Below Wc.heap.size Wc w'):=⟨by rw [←hpl];exact HPL0.out⟩
 have HF1:=Hd.mk hf1
 have HF2:=Hd.mk hf2
 clear hpl hf1 hf2 HPL0
 cases pl with
 |false =>
  have hrr:r= .no:=by rw [←HR.out];unfold stepR;rw [HPV.out];rfl
  subst hrr
  have HSc:=Hd.mk ((Step.refl (fun _=>False) W ρ).drew)
  refine wp_region_held_drew (S:=(fun wv=>Step (fun _=>False) W ρ wv ρ∧∀ a:Addr,a.block<W.heap.size→wv.cell? a=W.cell? a)) (by kernel_rfl) (keepS_of HSc.out) (fun hHeld=>?_)
  refine tkL 0 (.agg cs.toArray) ?_ ?_
  ·exact yieldsIf_load_mid (by rfl) _ _ rfl X3 0 rfl cs _ (fun wv hSw=>rangeAt_step HRN.out hSw.1) Try.underlying94 rfl HIN.out
  refine tkR 1 (fun K hK=>?_)
  go_simp
  go_at_call 39
  refine (HPL.out _).mono ?_
  rintro e Wn ⟨rfl,hb⟩
  have HSc:=Hd.mk (HSc.out.of_below hb)
  clear hb
  go_wp2_with fail
  refine tkK hK (by first|exact keepS_of HSc.out|exact keepS_of (HSc.out.alloc _)) (fun hHeld=>?_)
  clear hK K
  refine tkP 2 ?_
  refine tkP 3 ?_
  refine tkU 4 ?_
  refine tkU 5 ?_
  refine tkU 6 ?_
  refine tkU 7 ?_
  refine tkU 8 ?_
  refine tkU 9 ?_
  refine tkU 10 ?_
  refine tkU 11 ?_
  refine tkU 12 ?_
  refine tkU 13 ?_
  refine tkU 14 ?_
  refine tkU 15 ?_
  refine tkU 16 ?_
  refine tkU 17 ?_
  refine tkU 18 ?_
  refine tkP 19 ?_
  refine tkP 20 ?_
  refine tkU 21 ?_
  refine tkU 22 ?_
  refine tkU 23 ?_
  refine tkU 24 ?_
  refine tkU 25 ?_
  refine tkU 26 ?_
  refine tkU 27 ?_
  refine tkU 28 ?_
  refine tkU 29 ?_
  refine tkU 30 ?_
  refine tkU 31 ?_
  refine tkU 32 ?_
  refine tkU 33 ?_
  refine tkU 34 ?_
  refine tkP 35 ?_
  refine wpAnyH_done (by kernel_rfl) ?_ _
  go_wp2
  go_ret
  exact ⟨ρ,rfl,(CkP.refl HC.out HO.out).after (HS1.out.trans HSc.out) |>.no rfl⟩
 |true =>
  cases f1 with
  |false =>
   have hrr:r= .no:=by rw [←HR.out];unfold stepR;rw [HPV.out,HF1.out];rfl
   subst hrr
   have HSc:=Hd.mk ((Step.refl (fun _=>False) W ρ).drew)
   refine wp_region_held_drew (S:=(fun wv=>Step (fun _=>False) W ρ wv ρ∧∀ a:Addr,a.block<W.heap.size→wv.cell? a=W.cell? a)) (by kernel_rfl) (keepS_of HSc.out) (fun hHeld=>?_)
   refine tkL 0 (.agg cs.toArray) ?_ ?_
   ·exact yieldsIf_load_mid (by rfl) _ _ rfl X3 0 rfl cs _ (fun wv hSw=>rangeAt_step HRN.out hSw.1) Try.underlying94 rfl HIN.out
   refine tkR 1 (fun K hK=>?_)
   go_simp
   go_at_call 39
   refine (HPL.out _).mono ?_
   rintro e Wn ⟨rfl,hb⟩
   have HSc:=Hd.mk (HSc.out.of_below hb)
   clear hb
   go_wp2_with fail
   refine tkK hK (by first|exact keepS_of HSc.out|exact keepS_of (HSc.out.alloc _)) (fun hHeld=>?_)
   clear hK K
   refine tkP 2 ?_
   refine tkP 3 ?_
   refine tkP 4 ?_
   refine tkP 5 ?_
   refine tkP 6 ?_
   refine tkP 7 ?_
   refine tkP 8 ?_
   refine tkP 9 ?_
   refine tkP 10 ?_
   refine tkP 12 ?_
   refine tkP 13 ?_
   refine tkP 14 ?_
   refine tkP 15 ?_
   refine tkP 16 ?_
   refine tkR 11 (fun K hK=>?_)
   go_simp
   refine tkK hK (by first|exact keepS_of HSc.out|exact keepS_of (HSc.out.alloc _)) (fun hHeld=>?_)
   clear hK K
   refine tkR 17 (fun K hK=>?_)
   go_simp
   go_at_call 24
   have hbx:=Blk.new Wn [.int .i64 s.ty.kind, .int .i64 s.ty.n, .string s.ty.name, .slice S0 s.ty.args.length s0, .int .i64 s.ty.region, .slice S1 s.ty.eff.regs.length s1, .slice S2 s.ty.eff.vars.length s2] 43
   have hsa:=(Step.refl (fun _=>False) Wn ρ).alloc (.cells ([.int .i64 s.ty.kind, .int .i64 s.ty.n, .string s.ty.name, .slice S0 s.ty.args.length s0, .int .i64 s.ty.region, .slice S1 s.ty.eff.regs.length s1, .slice S2 s.ty.eff.vars.length s2]:List Value).toArray 43)
   have hsx:=HSc.out.trans hsa
   have h1:=TysR.one (t:=s.ty) hbx (HFW.out _ HSc.out.size) (TyR.step hsx _ HVW.out.ty)
   refine (formed_any n _ ρ p.datas [s.ty] A1 q1 nd (some ⟨Wn.heap.size,0,none⟩) 1 ty (HKD.out.step hsx) h1 HTY.out).mono ?_
   rintro e Wn ⟨he,hb⟩
   rw [HF1.out] at he
   subst he
   have HSc:=Hd.mk (hsx.of_below hb)
   clear hb hbx hsa hsx h1
   go_wp2_with fail
   refine tkK hK (by first|exact keepS_of HSc.out|exact keepS_of (HSc.out.alloc _)) (fun hHeld=>?_)
   clear hK K
   refine tkP 18 ?_
   refine tkP 19 ?_
   refine tkP 20 ?_
   refine tkU 21 ?_
   refine tkU 22 ?_
   refine tkU 23 ?_
   refine tkU 24 ?_
   refine tkU 25 ?_
   refine tkU 26 ?_
   refine tkU 27 ?_
   refine tkU 28 ?_
   refine tkU 29 ?_
   refine tkU 30 ?_
   refine tkU 31 ?_
   refine tkU 32 ?_
   refine tkU 33 ?_
   refine tkU 34 ?_
   refine tkP 35 ?_
   refine wpAnyH_done (by kernel_rfl) ?_ _
   go_wp2
   go_ret
   exact ⟨ρ,rfl,(CkP.refl HC.out HO.out).after (HS1.out.trans HSc.out) |>.no rfl⟩
  |true =>
   cases f2 with
   |false =>
    have hrr:r= .no:=by rw [←HR.out];unfold stepR;rw [HPV.out,HF1.out,HF2.out];rfl
    subst hrr
    have HSc:=Hd.mk ((Step.refl (fun _=>False) W ρ).drew)
    refine wp_region_held_drew (S:=(fun wv=>Step (fun _=>False) W ρ wv ρ∧∀ a:Addr,a.block<W.heap.size→wv.cell? a=W.cell? a)) (by kernel_rfl) (keepS_of HSc.out) (fun hHeld=>?_)
    refine tkL 0 (.agg cs.toArray) ?_ ?_
    ·exact yieldsIf_load_mid (by rfl) _ _ rfl X3 0 rfl cs _ (fun wv hSw=>rangeAt_step HRN.out hSw.1) Try.underlying94 rfl HIN.out
    refine tkR 1 (fun K hK=>?_)
    go_simp
    go_at_call 39
    refine (HPL.out _).mono ?_
    rintro e Wn ⟨rfl,hb⟩
    have HSc:=Hd.mk (HSc.out.of_below hb)
    clear hb
    go_wp2_with fail
    refine tkK hK (by first|exact keepS_of HSc.out|exact keepS_of (HSc.out.alloc _)) (fun hHeld=>?_)
    clear hK K
    refine tkP 2 ?_
    refine tkP 3 ?_
    refine tkP 4 ?_
    refine tkP 5 ?_
    refine tkP 6 ?_
    refine tkP 7 ?_
    refine tkP 8 ?_
    refine tkP 9 ?_
    refine tkP 10 ?_
    refine tkP 12 ?_
    refine tkP 13 ?_
    refine tkP 14 ?_
    refine tkP 15 ?_
    refine tkP 16 ?_
    refine tkR 11 (fun K hK=>?_)
    go_simp
    refine tkK hK (by first|exact keepS_of HSc.out|exact keepS_of (HSc.out.alloc _)) (fun hHeld=>?_)
    clear hK K
    refine tkR 17 (fun K hK=>?_)
    go_simp
    go_at_call 24
    have hbx:=Blk.new Wn [.int .i64 s.ty.kind, .int .i64 s.ty.n, .string s.ty.name, .slice S0 s.ty.args.length s0, .int .i64 s.ty.region, .slice S1 s.ty.eff.regs.length s1, .slice S2 s.ty.eff.vars.length s2] 43
    have hsa:=(Step.refl (fun _=>False) Wn ρ).alloc (.cells ([.int .i64 s.ty.kind, .int .i64 s.ty.n, .string s.ty.name, .slice S0 s.ty.args.length s0, .int .i64 s.ty.region, .slice S1 s.ty.eff.regs.length s1, .slice S2 s.ty.eff.vars.length s2]:List Value).toArray 43)
    have hsx:=HSc.out.trans hsa
    have h1:=TysR.one (t:=s.ty) hbx (HFW.out _ HSc.out.size) (TyR.step hsx _ HVW.out.ty)
    refine (formed_any n _ ρ p.datas [s.ty] A1 q1 nd (some ⟨Wn.heap.size,0,none⟩) 1 ty (HKD.out.step hsx) h1 HTY.out).mono ?_
    rintro e Wn ⟨he,hb⟩
    rw [HF1.out] at he
    subst he
    have HSc:=Hd.mk (hsx.of_below hb)
    clear hb hbx hsa hsx h1
    go_wp2_with fail
    refine tkK hK (by first|exact keepS_of HSc.out|exact keepS_of (HSc.out.alloc _)) (fun hHeld=>?_)
    clear hK K
    refine tkP 18 ?_
    refine tkP 19 ?_
    refine tkP 20 ?_
    refine tkP 21 ?_
    refine tkP 22 ?_
    refine tkP 23 ?_
    refine tkP 24 ?_
    refine tkP 25 ?_
    refine tkP 26 ?_
    refine tkP 27 ?_
    refine tkP 28 ?_
    refine tkP 29 ?_
    refine tkP 30 ?_
    refine tkP 31 ?_
    refine tkP 32 ?_
    refine tkR 33 (fun K hK=>?_)
    go_simp
    go_at_call 24
    refine (formed_any n _ ρ p.datas s.types A1 q1 nd S4 s4 ty (HKD.out.step HSc.out) (HVW.out.types.step HSc.out) HTY.out).mono ?_
    rintro e Wn ⟨he,hb⟩
    rw [HF2.out] at he
    subst he
    have HSc:=Hd.mk (HSc.out.of_below hb)
    clear hb
    go_wp2_with fail
    refine tkK hK (by first|exact keepS_of HSc.out|exact keepS_of (HSc.out.alloc _)) (fun hHeld=>?_)
    clear hK K
    refine tkP 34 ?_
    refine tkP 35 ?_
    refine wpAnyH_done (by kernel_rfl) ?_ _
    go_wp2
    go_ret
    exact ⟨ρ,rfl,(CkP.refl HC.out HO.out).after (HS1.out.trans HSc.out) |>.no rfl⟩
   |true =>
    have HSc:=Hd.mk ((Step.refl (fun _=>False) W ρ).drew)
    refine wp_region_held_drew (S:=(fun wv=>Step (fun _=>False) W ρ wv ρ∧∀ a:Addr,a.block<W.heap.size→wv.cell? a=W.cell? a)) (by kernel_rfl) (keepS_of HSc.out) (fun hHeld=>?_)
    refine tkL 0 (.agg cs.toArray) ?_ ?_
    ·exact yieldsIf_load_mid (by rfl) _ _ rfl X3 0 rfl cs _ (fun wv hSw=>rangeAt_step HRN.out hSw.1) Try.underlying94 rfl HIN.out
    refine tkR 1 (fun K hK=>?_)
    go_simp
    go_at_call 39
    refine (HPL.out _).mono ?_
    rintro e Wn ⟨rfl,hb⟩
    have HSc:=Hd.mk (HSc.out.of_below hb)
    clear hb
    go_wp2_with fail
    refine tkK hK (by first|exact keepS_of HSc.out|exact keepS_of (HSc.out.alloc _)) (fun hHeld=>?_)
    clear hK K
    refine tkP 2 ?_
    refine tkP 3 ?_
    refine tkP 4 ?_
    refine tkP 5 ?_
    refine tkP 6 ?_
    refine tkP 7 ?_
    refine tkP 8 ?_
    refine tkP 9 ?_
    refine tkP 10 ?_
    refine tkP 12 ?_
    refine tkP 13 ?_
    refine tkP 14 ?_
    refine tkP 15 ?_
    refine tkP 16 ?_
    refine tkR 11 (fun K hK=>?_)
    go_simp
    refine tkK hK (by first|exact keepS_of HSc.out|exact keepS_of (HSc.out.alloc _)) (fun hHeld=>?_)
    clear hK K
    refine tkR 17 (fun K hK=>?_)
    go_simp
    go_at_call 24
    have hbx:=Blk.new Wn [.int .i64 s.ty.kind, .int .i64 s.ty.n, .string s.ty.name, .slice S0 s.ty.args.length s0, .int .i64 s.ty.region, .slice S1 s.ty.eff.regs.length s1, .slice S2 s.ty.eff.vars.length s2] 43
    have hsa:=(Step.refl (fun _=>False) Wn ρ).alloc (.cells ([.int .i64 s.ty.kind, .int .i64 s.ty.n, .string s.ty.name, .slice S0 s.ty.args.length s0, .int .i64 s.ty.region, .slice S1 s.ty.eff.regs.length s1, .slice S2 s.ty.eff.vars.length s2]:List Value).toArray 43)
    have hsx:=HSc.out.trans hsa
    have h1:=TysR.one (t:=s.ty) hbx (HFW.out _ HSc.out.size) (TyR.step hsx _ HVW.out.ty)
    refine (formed_any n _ ρ p.datas [s.ty] A1 q1 nd (some ⟨Wn.heap.size,0,none⟩) 1 ty (HKD.out.step hsx) h1 HTY.out).mono ?_
    rintro e Wn ⟨he,hb⟩
    rw [HF1.out] at he
    subst he
    have HSc:=Hd.mk (hsx.of_below hb)
    clear hb hbx hsa hsx h1
    go_wp2_with fail
    refine tkK hK (by first|exact keepS_of HSc.out|exact keepS_of (HSc.out.alloc _)) (fun hHeld=>?_)
    clear hK K
    refine tkP 18 ?_
    refine tkP 19 ?_
    refine tkP 20 ?_
    refine tkP 21 ?_
    refine tkP 22 ?_
    refine tkP 23 ?_
    refine tkP 24 ?_
    refine tkP 25 ?_
    refine tkP 26 ?_
    refine tkP 27 ?_
    refine tkP 28 ?_
    refine tkP 29 ?_
    refine tkP 30 ?_
    refine tkP 31 ?_
    refine tkP 32 ?_
    refine tkR 33 (fun K hK=>?_)
    go_simp
    go_at_call 24
    refine (formed_any n _ ρ p.datas s.types A1 q1 nd S4 s4 ty (HKD.out.step HSc.out) (HVW.out.types.step HSc.out) HTY.out).mono ?_
    rintro e Wn ⟨he,hb⟩
    rw [HF2.out] at he
    subst he
    have HSc:=Hd.mk (HSc.out.of_below hb)
    clear hb
    go_wp2_with fail
    refine tkK hK (by first|exact keepS_of HSc.out|exact keepS_of (HSc.out.alloc _)) (fun hHeld=>?_)
    clear hK K
    refine tkP 34 ?_
    refine tkP 35 ?_
    refine wpAnyH_done (by kernel_rfl) ?_ _
    have HSN:=Hd.mk (HS1.out.trans HSc.out)
    have HCN:=Hd.mk (HC.out.step HSN.out (fun _ _ h=>h))
    have HCSN:=Hd.mk (HSc.out.blk HCS.out (fun _ _ h=>h))
    have HFN:=Hd.mk (HSN.out.fresh HFR.out)
    have hal:s.args.length≤1048576:=by
     obtain ⟨_,_,hv,_,_,h4,_⟩:=SlR.out HV.out.args
     cases hv
     omega
    have HST:=HR.out
    unfold stepR at HST
    rw [HPV.out,HF1.out,HF2.out] at HST
    have HRR:=Hd.mk HST
    have HTF:=Hd.mk (formedL_one HF1.out)
    have HOP:=Hd.mk (plainStep_op HPV.out)
    clear HST HPL HRN HCW HKW HKD HFW yC0 yC6 lC l3 hHeld e0 e1 e2 e3 e4 e5 e6 e7 e8 e9 e10 e11 e12 e13 e14 e15 e16 e17 e18
    generalize hWn:Wn=V at *
    have e9:V.cell? ⟨X3,9,none⟩=some (.slice S3 s.args.length s3):=HCSN.out.cell (i:=9) (by rw [←HCE.out];rfl)
    have l3:=HCSN.out.lt
    clear hWn
    go_wp2_with fail
    go_loopw [5,49] (fun vo vk wr=>∃ (k:Nat) (ags:List Ty) (xs:List Value) (ρr:Ghost) (M:Nat),vk= .int .i64 k∧k≤s.args.length∧ags.length=k∧OwnSl wr ρr (33,0) 43 7 vo k xs∧FlatR 7 (TyR wr ρr M) ags xs∧c.all s.args=(c.all (s.args.drop k)).map (ags++ ·)∧(∀ t,t ∈ ags→formed1 p.datas ty t=true)∧Step (fun t=>t=(33,0)) V ρ wr ρr) (fun _ v _=>s.args.length-(intOf v).toNat)
    case atStart=>exact ⟨0,[],[],ρ,0,by simp,by omega,rfl,OwnSl.nil _ _ _ _ _,FlatR.nil _ _,by simp,(fun t h=>by cases h),Step.refl _ _ _⟩
    case round =>
     obtain ⟨k,ags,xs,ρr,M,rfl,hk,hlen,hO,hFl,hall,hFa,hS⟩:=hrel
     obtain ⟨Ao,co,rfl,_,_⟩:=hO.form
     have HO2:=Hd.mk hO
     have HFL:=Hd.mk hFl
     have HALL:=Hd.mk hall
     have HFA:=Hd.mk hFa
     have HS:=Hd.mk hS
     have HLEN:=Hd.mk hlen
     have HSW:=Hd.mk ((HSN.out.mono (fun _ h=>h.elim):Step (fun t=>t=(33,0)) w ρ V ρ).trans hS)
     clear hO hFl hall hFa hS hlen e9
     by_cases hlt:k<s.args.length
     ·have hlti:(k:Int)<((s.args.length:Nat):Int):=by omega
      have hk0:(0:Int)≤k:=by omega
      obtain ⟨bI,oI,hIA,hI64,i0,lI⟩:=IntsR.elem (HV.out.args.step HSW.out) (List.getElem?_eq_getElem hlt)
      cases hIA
      have hdr:=all_drop (c:=c) (List.getElem?_eq_getElem hlt)
      generalize s.args[k]=x at *
      have hcall:=of_any (fun t=>formed1 p.datas ty t=true) wr ρr C hd mb c false x (HC.out.step HSW.out (fun t ht he=>by subst he;rcases ht with h|h|h <;> cases h)) hI64
      have HCALL:=Hd.mk hcall
      have HDR:=Hd.mk hdr
      clear hcall hdr
      go_wp2_with fail
      refine HCALL.out.mono ?_
      rintro e W5 ⟨tn,va,v1,v2,rfl,⟨nt,hTn⟩,hof,hb5⟩
      obtain ⟨m0,_,_,_,_,hcs0,_,_,_,_,hy1,hy2,hy3⟩:=hTn.shape
      simp only [tyCells,List.cons.injEq,and_true,true_and] at hcs0
      obtain ⟨rfl,rfl,rfl⟩:=hcs0
      obtain ⟨D0,d0,rfl,_,_⟩:=SlR.form hy1
      obtain ⟨D1,d1,rfl,_,_⟩:=SlR.form hy2
      obtain ⟨D2,d2,rfl,_,_⟩:=SlR.form hy3
      have HS5:=Hd.mk (Step.ofBelow ρr hb5)
      have HTN:=Hd.mk hTn
      have HOF:=Hd.mk hof
      clear hTn hof hb5 hy1 hy2 hy3 HCALL i0 lI
      simp only [tyCells]
      cases hcof:c.of x with
      |none =>
       have hrr:r= .no:=by
        rw [←HRR.out,HALL.out,HDR.out,hcof]
        rfl
       subst hrr
       simp only [Option.isSome_none]
       clear hcof
       have HSf:=Hd.mk ((HS.out.trans (HS5.out.mono (fun _ h=>h.elim))).alloc (.cells #[.int .i64 tn.kind, .int .i64 tn.n, .string tn.name, .slice D0 tn.args.length d0, .int .i64 tn.region, .slice D1 tn.eff.regs.length d1, .slice D2 tn.eff.vars.length d2] 43))
       go_wp2
       go_ret
       exact ⟨ρ,rfl,((CkP.refl HC.out HO.out).after (HSN.out.trans (Step.ofBelow ρ (HSf.out.falsely (fun b t hb ht=>by subst ht;exact HO.out.not 0 b hb))))).no rfl⟩
      |some t0 =>
       obtain ⟨e1,hft⟩:=HOF.out t0 hcof
       subst e1
       have HALL2:Hd (c.all s.args=(c.all (s.args.drop (k+1))).map ((ags++[t0])++ ·)):=⟨by
        rw [HALL.out,HDR.out,hcof]
        cases c.all (s.args.drop (k+1)) with
        |none=>rfl
        |some m=>simp⟩
       have HFT:=Hd.mk hft
       simp only [Option.isSome_some]
       clear hcof hft HOF HDR
       have HO5:=Hd.mk ((HO2.out.step HS5.out (fun h=>h)).alloc (.cells #[.int .i64 t0.kind, .int .i64 t0.n, .string t0.name, .slice D0 t0.args.length d0, .int .i64 t0.region, .slice D1 t0.eff.regs.length d1, .slice D2 t0.eff.vars.length d2] 43))
       have HS6:=Hd.mk (HS5.out.alloc (.cells #[.int .i64 t0.kind, .int .i64 t0.n, .string t0.name, .slice D0 t0.args.length d0, .int .i64 t0.region, .slice D1 t0.eff.regs.length d1, .slice D2 t0.eff.vars.length d2] 43))
       go_wp2_with (at_builtin;refine wpList_append_boxW rfl _ _ _ rfl 43 _ 7 112 Try.underlying41 infoTy rfl (by decide) ρr (33,0) (.slice Ao k co) k xs [.int .i64 t0.kind, .int .i64 t0.n, .string t0.name, .slice D0 t0.args.length d0, .int .i64 t0.region, .slice D1 t0.eff.regs.length d1, .slice D2 t0.eff.vars.length d2] rfl HO5.out 1 _ rfl (by first|rfl|simp) rfl (by simp [Value.oneCell']) (by unfold maxLen;omega) (by omega) ?zz)
       case zz =>
       intro v1 W7 ρ7' hO7 hS7
       obtain ⟨ρ7,hO8,hS8,hN8⟩:=hO7.retag hS7
       have HO8:=Hd.mk hO8
       have HS8:=Hd.mk ((HS6.out.mono (fun _ h=>h.elim):Step (fun t=>t=(33,0)) wr ρr _ ρr).trans hS8)
       have HS68:=Hd.mk (((Step.refl (fun t=>t=(33,0)) W5 ρr).alloc (.cells #[.int .i64 t0.kind, .int .i64 t0.n, .string t0.name, .slice D0 t0.args.length d0, .int .i64 t0.region, .slice D1 t0.eff.regs.length d1, .slice D2 t0.eff.vars.length d2] 43)).trans hS8)
       clear hO7 hS7 hO8 hS8 hN8
       go_wp2
       go_roundw
       case rel =>
        refine ⟨k+1,ags++[t0],_,ρ7,max M nt,by go_num,by omega,by have:=HLEN.out;simp [this],HO8.out,?_,HALL2.out,?_,HS.out.trans HS8.out⟩
        ·exact (HFL.out.imp (fun _ _ _ h=>(TyR.step HS8.out _ h).mono (by omega))).snoc rfl ((TyR.step HS68.out _ HTN.out).mono (by omega))
        ·intro t ht
         rcases List.mem_append.1 ht with ht|ht
         ·exact HFA.out t ht
         ·rw [List.mem_singleton] at ht
          subst ht
          exact HFT.out
       case measure=>simp [intOf];omega
     ·have hke:k=s.args.length:=by omega
      subst hke
      have hall:=HALL.out
      rw [List.drop_length,CS.all] at hall
      simp only [Option.map_some,List.append_nil] at hall
      have hbel:Below V.heap.size V wr:=HS.out.falsely (fun b t hb ht=>by subst ht;exact HO.out.not 0 b hb)
      have hgg:∀ b,ρr b=none→ρ b=none:=fun b hb=>by
       by_cases hlt:b<V.heap.size
       ·rw [←HS.out.ghost b hlt];exact hb
       ·exact HFN.out b (by omega)
      have hTA:TysR wr ρ M (.slice Ao ags.length co) ags:=by
       have hF2:=HFL.out.imp (R':=TyR wr ρ M) (fun _ _ _ h=>TyR.ghost hgg _ h)
       rcases HO2.out.2 with ⟨h0,h1⟩|⟨g,cap,L,h0,hr,hbk,h1,h2,h3,h4⟩
       ·have hag:ags=[]:=List.eq_nil_of_length_eq_zero (by have:=HLEN.out;omega)
        subst hag
        simp only [Value.slice.injEq] at h0
        obtain ⟨rfl,_,rfl⟩:=h0
        exact SlR.nil _ _ _ _ _
       ·simp only [Value.slice.injEq,true_and] at h0
        obtain ⟨rfl,rfl⟩:=h0
        have hgn:ρ g=none:=by
         by_cases hlt:g<V.heap.size
         ·rw [HS.out.ghost g hlt] at hr
          exact absurd hr (HO.out.not 0 g)
         ·exact HFN.out g (by omega)
        exact hF2.slR (byt:=112) HO2.out HLEN.out hgn (by omega)
      have HRV:=Hd.mk ((stepR_some HPV.out HF1.out HF2.out hall).symm.trans HR.out)
      have HSR:=Hd.mk (HSN.out.trans (Step.ofBelow ρ hbel))
      have HCSR:=Hd.mk ((Step.ofBelow ρ hbel).blk HCSN.out (fun _ _ h=>h))
      have HN3R:Hd (ρ X3=none):=HN3
      have HTA:=Hd.mk hTA
      have HCR:=Hd.mk (HC.out.step HSR.out (fun _ _ h=>h))
      have HFRR:=Hd.mk (HSR.out.fresh HFR.out)
      have l3r:=HCSR.out.lt
      have hrng:Hd (wr.rangeAt X3 0 cs):=⟨fun j u hj=>by rw [Nat.zero_add];exact HCSR.out.cell hj⟩
      have hlnA:Value.slice Ao s.args.length co=Value.slice Ao ags.length co:=by rw [HLEN.out]
      rw [hlnA]
      clear hall hbel hgg hTA HALL HRR HFL HO2 HS HSW l3 hlnA
      have e0:wr.cell? ⟨X3,0,none⟩=some (.int .i64 s.op):=HCSR.out.cell (i:=0) (by rw [←HCE.out];rfl)
      by_cases hB:s.op<26∧s.op≠7∧s.op≠17
      case' pos =>
       obtain ⟨hb26,hb7,hb17⟩:=hB
       have hb7':(s.op != 7)=true:=by simpa using hb7
       have hb17':(s.op != 17)=true:=by simpa using hb17
       have HB:Hd (s.op<26∧s.op≠7∧s.op≠17):=⟨hb26,hb7,hb17⟩
       have hcall:=typed_any (fun t=>formed1 p.datas ty t=true) wr ρ n p ty nd C hd mb c false s S0 S1 S2 S3 S4 S5 S6 S7 S8 S9 s0 s1 s2 s3 s4 s5 s6 s7 s8 s9 ags Ao co M HCR.out (HK.out.step HSR.out) (HV.out.step HSR.out) HTA.out HFRR.out HHP.out HTF.out HOP.out.1 hb26 hb7 hb17
       rw [HCE.out] at hcall
       have hrn:=HRV.out
       rw [if_pos HB.out] at hrn
       obtain ⟨rt,hrt⟩:∃ z,typedC p s ags=z:=⟨_,rfl⟩
       rw [hrt] at hcall hrn
       have HCALLN:=Hd.mk hcall
       have HRN2:=Hd.mk hrn
       clear hcall hrn hrt
       go_wp2_with (refine wpList_load_mid rfl 94 _ rfl X3 0 rfl cs _ hrng.out Try.underlying94 rfl HIN.out ?_)
       refine HCALLN.out.mono ?_
       rintro e Wm ⟨rfl,hbm⟩
       have HPm0:=Hd.mk ((CkP.refl HC.out HO.out).after (HSR.out.trans (Step.ofBelow ρ hbm)))
       have HSm:Hd (Step CkT wr ρ Wm ρ):=⟨(Step.ofBelow ρ hbm).mono (fun _ h=>h.elim)⟩
       clear hbm HCALLN e0
       cases rt
       case false =>
        have hrr:r= .no:=by rw [←HRN2.out];rfl
        subst hrr
        go_wp2
        go_ret
        exact ⟨ρ,rfl,HPm0.out.no rfl⟩
       case' true =>
        obtain ⟨ρm,hρm⟩:∃ z,ρ=z:=⟨_,rfl⟩
        obtain ⟨cm,hcm⟩:∃ z,c=z:=⟨_,rfl⟩
        have HPm:Hd (CkP (fun t=>formed1 p.datas ty t=true) w ρ Wm ρm C hd mb c (.ok cm)):=⟨by rw [←hρm, ←hcm];exact HPm0.out⟩
        have HSm':Hd (Step CkT wr ρ Wm ρm):=⟨by rw [←hρm];exact HSm.out⟩
        have HSm:=HSm'
        have HRm:Hd (bindK s cm=r):=⟨by rw [←hcm];exact HRN2.out⟩
        clear hρm hcm HPm0
      case' neg =>
       have HB:=Hd.mk hB
       by_cases hb26:s.op<26
       case' pos =>
        by_cases hb7:s.op=7
        case' pos =>
         have hb7':(s.op != 7)=false:=by simpa using hb7
        case' neg =>
         have hb7':(s.op != 7)=true:=by simpa using hb7
         have hb17:s.op=17:=by omega
         have hb17':(s.op != 17)=false:=by simpa using hb17
       all_goals (
        clear hB
        have hcall:=HNC.out wr ρ C hd mb c n s S0 S1 S2 S3 S4 S5 S6 S7 S8 S9 s0 s1 s2 s3 s4 s5 s6 s7 s8 s9 ags Ao co M HCR.out (HK.out.step HSR.out) rfl (HV.out.step HSR.out) HTA.out HFA.out HTF.out HOP.out.1 HOP.out.2 HB.out HFRR.out HO.out
        rw [HCE.out] at hcall
        have hrn:=HRV.out
        rw [if_neg HB.out] at hrn
        obtain ⟨rn,hrn2⟩:∃ z,nestedC p ty c s ags=z:=⟨_,rfl⟩
        rw [hrn2] at hcall hrn
        have HCALLN:=Hd.mk hcall
        have HRN2:=Hd.mk hrn
        clear hcall hrn hrn2
        go_wp2_with (refine wpList_load_mid rfl 94 _ rfl X3 0 rfl cs _ hrng.out Try.underlying94 rfl HIN.out ?_)
        refine HCALLN.out.mono ?_
        rintro e Wm ⟨ρm,rfl,hPm⟩
        have HPm0:=Hd.mk (((CkP.refl HC.out HO.out).after HSR.out).andThen hPm)
        have HSm:=Hd.mk hPm.step
        clear hPm HCALLN e0
        cases rn
        case' ok cm =>
         have HPm:=HPm0
         have HRm:Hd (bindK s cm=r):=⟨HRN2.out⟩
         simp only [Rs.isOk]
        case no =>
         have hrr:r= .no:=by rw [←HRN2.out];rfl
         subst hrr
         simp only [Rs.isOk]
         go_wp2
         go_ret
         exact ⟨ρm,rfl,HPm0.out⟩
        case big =>
         have hrr:r= .big:=by rw [←HRN2.out];rfl
         subst hrr
         simp only [Rs.isOk]
         go_wp2
         go_ret
         exact ⟨ρm,rfl,HPm0.out⟩)
      all_goals (
       have HCm:=Hd.mk (HSm.out.blk HCSR.out (fun t ht=>by rw [HN3R.out] at ht;cases ht))
       have e1:Wm.cell? ⟨X3,1,none⟩=some (.int .i64 s.out):=HCm.out.cell (i:=1) (by rw [←HCE.out];rfl)
       have e2:Wm.cell? ⟨X3,2,none⟩=some (.int .i64 s.ty.kind):=HCm.out.cell (i:=2) (by rw [←HCE.out];rfl)
       have e3:Wm.cell? ⟨X3,3,none⟩=some (.int .i64 s.ty.n):=HCm.out.cell (i:=3) (by rw [←HCE.out];rfl)
       have e4:Wm.cell? ⟨X3,4,none⟩=some (.string s.ty.name):=HCm.out.cell (i:=4) (by rw [←HCE.out];rfl)
       have e5:Wm.cell? ⟨X3,5,none⟩=some (.slice S0 s.ty.args.length s0):=HCm.out.cell (i:=5) (by rw [←HCE.out];rfl)
       have e6:Wm.cell? ⟨X3,6,none⟩=some (.int .i64 s.ty.region):=HCm.out.cell (i:=6) (by rw [←HCE.out];rfl)
       have e7:Wm.cell? ⟨X3,7,none⟩=some (.slice S1 s.ty.eff.regs.length s1):=HCm.out.cell (i:=7) (by rw [←HCE.out];rfl)
       have e8:Wm.cell? ⟨X3,8,none⟩=some (.slice S2 s.ty.eff.vars.length s2):=HCm.out.cell (i:=8) (by rw [←HCE.out];rfl)
       have l3m:=HCm.out.lt
       have hcall:=bind_ck (fun t=>formed1 p.datas ty t=true) Wm ρm C hd mb cm s.out s.ty S0 S1 S2 s0 s1 s2 HPm.out.ck HPm.out.only HV.out.i2 ⟨_,TyR.step HPm.out.step _ HV.out.ty⟩ HTF.out
       have HCALL:=Hd.mk hcall
       clear hcall
       go_wp2_with fail
       refine HCALL.out.mono ?_
       rintro e Wb ⟨ρb,rfl,hPb⟩
       have HPb:=Hd.mk (HPm.out.andThen hPb)
       clear hPb HCALL
       cases hb:cm.bind s.out s.ty
       case' none =>
        have hrr:r= .no:=by rw [←HRm.out];unfold bindK;rw [hb]
       case' some c2 =>
        have hrr:r= .ok c2:=by rw [←HRm.out];unfold bindK;rw [hb]
       all_goals (
        have HPb2:=HPb.out
        rw [hb] at HPb2
        have HPb3:=Hd.mk HPb2
        subst hrr
        simp only [Option.isSome_none,Option.isSome_some]
        clear hb HPb2
        go_wp2
        go_ret
        exact ⟨ρb,rfl,HPb3.out⟩))
end
section
open Go Go.RowKit
theorem bindsFit_drop {l:List Bk} {m:List Con} {k:Nat} {b:Bk} {c:Con} (h1:l[k]? =some b) (h2:m[k]? =some c):bindsFit (l.drop k) (m.drop k)=(decide (b.bind.length=c.fields.length) && bindsFit (l.drop (k+1)) (m.drop (k+1))):=by
 rw [drop_cons h1,drop_cons h2,bindsFit]
theorem caseBinds_drop {ag:List Ty} {l:List Con} {k:Nat} {c:Con} (h:l[k]? =some c):caseBinds ag (l.drop k)=if c.fields.all (fun f=>decide (0≤room1 ag 256 1 f)) then (caseBinds ag (l.drop (k+1))).map (atL ag c.fields :: ·) else none:=by
 rw [drop_cons h,caseBinds]
theorem allRoom_drop {ag:List Ty} {l:List Ty} {k:Nat} {t:Ty} (h:l[k]? =some t):(l.drop k).all (fun f=>decide (0≤room1 ag 256 1 f))=(decide (0≤room1 ag 256 1 t) && (l.drop (k+1)).all (fun f=>decide (0≤room1 ag 256 1 f))):=by
 rw [drop_cons h,List.all_cons]
-- Types with others in the place of their variables are formed as the others are.
mutual
theorem formed1_at {ds:List Dat} {vars:Int} {ag:List Ty} (hag:∀ t,t ∈ ag→formed1 ds vars t=true):∀ t:Ty,formed1 ds ag.length t=true→formed1 ds vars (at1 ag t)=true
 |.mk k n name args region eff,h=>by
  by_cases h3:k=3
  ·have hv:=formed1_var h h3
   have hlt:n.toNat<ag.length:=by
    have h1:0≤n:=hv.1
    have h2:n<ag.length:=hv.2
    omega
   rw [at1,if_pos h3]
   simp only [atVar,List.getElem?_eq_getElem hlt]
   exact hag _ (List.getElem_mem hlt)
  ·rw [at1,if_neg h3]
   rw [formed1] at h ⊢
   have hm:manyOf ds k n (atL ag args).length vars=manyOf ds k n args.length ag.length:=by
    rw [atL_len]
    unfold manyOf
    simp only [h3,if_false]
   rw [hm]
   split at h
   ·cases h
   ·simp only [Bool.and_eq_true] at h ⊢
    refine ⟨⟨⟨⟨⟨h.1.1.1.1.1,?_⟩,h.1.1.1.2⟩,h.1.1.2⟩,h.1.2⟩,formedL_at hag args h.2⟩
    rw [atL_len]
    exact h.1.1.1.1.2
theorem formedL_at {ds:List Dat} {vars:Int} {ag:List Ty} (hag:∀ t,t ∈ ag→formed1 ds vars t=true):∀ l:List Ty,formedL ds ag.length l=true→formedL ds vars (atL ag l)=true
 |[],_=>by rw [atL,formedL]
 |t :: l,h=>by
  rw [formedL,Bool.and_eq_true] at h
  rw [atL,formedL,Bool.and_eq_true]
  exact ⟨formed1_at hag t h.1,formedL_at hag l h.2⟩
end
theorem formedL_mem {ds:List Dat} {vars:Int} {l:List Ty} (h:formedL ds vars l=true):∀ t,t ∈ l→formed1 ds vars t=true:=fun t ht=>by
 obtain ⟨i,hi⟩:=List.getElem?_of_mem ht
 exact formedL_get h hi
end
end Go.Proofs.Ytadffbgbndibpaa
