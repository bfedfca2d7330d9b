/- GaH, GaI: lemmas and walks of the claim. -/
import Derived.Test.YtadffbgbndibpaaKGaG
import Derived.Defers
set_option linter.unusedVariables false
set_option linter.unusedSimpArgs false
set_option maxHeartbeats 16000000
set_option maxRecDepth 100000
namespace Go.Proofs.Ytadffbgbndibpaa
section
open Go Go.RowKit
theorem cut_d (u:FrameMode) (w:World) (b o:Nat) (A:Option Addr) (n c k:Nat) (h:w.cell? ⟨b,o,none⟩=some (.slice A n c)) (hf:w.frozen? ⟨b,o,none⟩=false) (hk:k≤c) (hA:A=none∨∃ g,A=some ⟨g,0,none⟩) :
 CallsD Try.prog 33 #[.pointer (some ⟨b,o,none⟩), .int .i64 k] u w fun e u' w'=>u'=u∧e= .returned (.tuple #[])∧w'=w.setCell ⟨b,o,none⟩ (.slice A k c):=by
 have hsl:=slice_hI w A n c k hk hA
 have hki:(k:Int)≤c:=by omega
 have hk0:(0:Int)≤k:=by omega
 have HA:=Hd.mk hA
 clear hA
 go_enter_d Try.func33,Try.ntmps33
 go_wp2
 go_end0
 exact ⟨rfl,rfl⟩
theorem CkR.cutTo {F:Ty→Prop} {w:World} {ρ:Ghost} {C:Nat} {hd:List Value} {mb:Nat} {c:CS} {big:Bool} (h:CkR F w ρ C hd mb c big) (k:Nat) (hk:k≤c.seen.length) :
 ∃ A cp,w.cell? ⟨C,23,none⟩=some (.slice A c.seen.length cp)∧k≤cp∧(A=none∨∃ g,A=some ⟨g,0,none⟩)∧w.frozen? ⟨C,23,none⟩=false ∧
  CkR F (w.setCell ⟨C,23,none⟩ (.slice A k cp)) ρ C hd mb (c.cut k) big∧Step CkT w ρ (w.setCell ⟨C,23,none⟩ (.slice A k cp)) ρ:=by
 obtain ⟨A,cp,h1,_,_,h4,h5,h6,h7⟩:=h.form
 have hA:A=none∨∃ g,A=some ⟨g,0,none⟩:=by
  rcases h4.2 with ⟨h0,_⟩|⟨g,cap,L,h0,_⟩
  ·simp only [Value.slice.injEq] at h0
   exact .inl h0.1
  ·cases h0;exact .inr ⟨g,rfl⟩
 have hA0:A=none→cp=0:=by
  rintro rfl
  rcases h4.2 with ⟨h0,_⟩|⟨g,cap,L,h0,_⟩
  ·simp only [Value.slice.injEq] at h0
   exact h0.2.2
  ·cases h0
 have hs:Step (fun t=>t=(31,0)) w ρ (w.setCell ⟨C,23,none⟩ (.slice A k cp)) ρ:=(Step.refl (fun t=>t=(31,0)) w ρ).setCell (a:=⟨C,23,none⟩) h.tag rfl _
 refine ⟨A,cp,h1,by omega,hA,h6 23,⟨⟨_,CkR.seen_put h.hdl h7,?_⟩,h.hdl,h.tag,h.map.step hs (by decide),h.ok.cut k⟩,hs.mono (fun _ h=> .inl h)⟩
 have h8:=(h4.cut k cp hk (Nat.le_refl _) (by omega) hA0).step hs (by decide)
 have e1:(c.cut k).seen.length=k:=by show (c.seen.take k).length=k;rw [List.length_take];omega
 rw [e1]
 rw [Nat.mul_one, ←List.map_take] at h8
 exact h8
end
section
open Go Go.RowKit
def Rs.cutBy (k:Nat):Rs CS→Rs CS
 |.ok c=> .ok (c.cut k)
 |.no=> .no
 |.big=> .big
theorem Rs.cutBy_big (k:Nat) (r:Rs CS):(r.cutBy k).isBig=r.isBig:=by cases r <;> rfl
theorem sevenT {W:World} {ρ:Ghost} {X:Nat} {tg:Tag} {L:List Value} (hb:Blk W X 43 L) (hl:L.length=7) (ht:ρ X=some tg) (v0 v1 v2 v3 v4 v5 v6:Value) :
 Blk (((((((W.setCell ⟨X,0,none⟩ v0).setCell ⟨X,1,none⟩ v1).setCell ⟨X,2,none⟩ v2).setCell ⟨X,3,none⟩ v3).setCell ⟨X,4,none⟩ v4).setCell ⟨X,5,none⟩ v5).setCell ⟨X,6,none⟩ v6) X 43 [v0,v1,v2,v3,v4,v5,v6] ∧
 Step (fun t=>t=tg) W ρ (((((((W.setCell ⟨X,0,none⟩ v0).setCell ⟨X,1,none⟩ v1).setCell ⟨X,2,none⟩ v2).setCell ⟨X,3,none⟩ v3).setCell ⟨X,4,none⟩ v4).setCell ⟨X,5,none⟩ v5).setCell ⟨X,6,none⟩ v6) ρ:=by
 refine ⟨?_,(((((((Step.refl (fun t=>t=tg) W ρ).setCell (a:=⟨X,0,none⟩) ht rfl v0).setCell (a:=⟨X,1,none⟩) ht rfl v1).setCell (a:=⟨X,2,none⟩) ht rfl v2).setCell (a:=⟨X,3,none⟩) ht rfl v3).setCell (a:=⟨X,4,none⟩) ht rfl v4).setCell (a:=⟨X,5,none⟩) ht rfl v5).setCell (a:=⟨X,6,none⟩) ht rfl v6⟩
 match L,hl with
 |[_,_,_,_,_,_,_],_=>exact ((((((hb.setCell 0 v0).setCell 1 v1).setCell 2 v2).setCell 3 v3).setCell 4 v4).setCell 5 v5).setCell 6 v6
theorem CkP.closeUp {F:Ty→Prop} {w w1 w2:World} {ρ ρ1:Ghost} {C:Nat} {hd:List Value} {mb:Nat} {c:CS} {r:Rs CS} (h1:CkP F w ρ w1 ρ1 C hd mb c r) (h2:Step (fun t=>t=(50,1)) w1 ρ1 w2 ρ1) (h3:∀ b,b<w.heap.size→w2.heap[b]? =w1.heap[b]?) :
 ∃ A n cp,w2.cell? ⟨C,23,none⟩=some (.slice A n cp)∧w2.frozen? ⟨C,23,none⟩=false∧c.seen.length≤cp∧(A=none∨∃ g,A=some ⟨g,0,none⟩)∧C<w2.heap.size∧ρ1 C=some (31,0)∧Step CkT w2 ρ1 (w2.setCell ⟨C,23,none⟩ (.slice A c.seen.length cp)) ρ1 ∧
  CkP F w ρ (w2.setCell ⟨C,23,none⟩ (.slice A c.seen.length cp)) ρ1 C hd mb c (r.cutBy c.seen.length):=by
 obtain ⟨c',k1,k2,k3⟩:=h1.st
 have k4:=k1.step h2 (fun t ht he=>by subst he;rcases ht with h|h|h <;> cases h)
 obtain ⟨A,cp,g1,g2,g3,g4,g5,g6⟩:=k4.cutTo c.seen.length k2
 refine ⟨A,_,cp,g1,g4,g2,g3,k4.lt,k4.tag,g6,?_⟩
 have hst:Step CkT w ρ w2 ρ1:=⟨h2.os.trans h1.step.os,h2.tape.trans h1.step.tape,h2.output.trans h1.step.output,Nat.le_trans h1.step.size h2.size,h1.step.ghost,fun k hk hn=>(h3 k hk).trans (h1.step.block k hk hn),fun f=>h2.fresh (h1.step.fresh f)⟩
 refine ⟨hst.trans g6,h1.only,_,by rw [Rs.cutBy_big];exact g5,?_,fun c1 h=>?_⟩
 ·show c.seen.length≤(c'.seen.take c.seen.length).length
  rw [List.length_take];omega
 ·cases r with
  |ok c2 =>
   cases h
   rw [k3 c2 rfl]
  |no=>cases h
  |big=>cases h
theorem blockC_eq (p:Pg) (ty:Int) (c:CS) (bn:List Ty) (code:Int) (b:Bk):blockC p ty c bn code b=if b.code≠code∨b.bind.length≠bn.length then .no else match c.binds b.bind bn with
 |none=> .no
 |some c1=>(stepsC p ty c1 b.steps).andThen fun c2=>match c2.of b.value with|some t=> .ok (c2.cut c.seen.length,t)|none=> .no:=by
 cases b;rw [blockC];rfl
theorem binds_drop {c:CS} {l:List Int} {m:List Ty} {k:Nat} {v:Int} {t:Ty} (h1:l[k]? =some v) (h2:m[k]? =some t):c.binds (l.drop k) (m.drop k)=(c.bind v t).bind fun c'=>c'.binds (l.drop (k+1)) (m.drop (k+1)):=by
 rw [drop_cons h1,drop_cons h2,CS.binds]
 cases c.bind v t <;> rfl
theorem binds_nil (c:CS) (m:List Ty):c.binds [] m=some c:=by cases m <;> simp [CS.binds]
theorem stepsC_drop {p:Pg} {ty:Int} {c:CS} {l:List St} {k:Nat} {s:St} (h:l[k]? =some s):stepsC p ty c (l.drop k)=(stepC p ty c s).andThen fun c1=>stepsC p ty c1 (l.drop (k+1)):=by
 rw [drop_cons h,stepsC]
def StepC (p:Pg) (ty:Int) (nd N:Nat):Prop:=∀ (w:World) (ρ:Ghost) (C:Nat) (hd:List Value) (mb:Nat) (c:CS) (n:Nat) (s:St) (S0 S1 S2 S3 S4 S5 S6 S7 S8 S9:Option Addr) (s0 s1 s2 s3 s4 s5 s6 s7 s8 s9:Nat),
 CkR (fun t=>formed1 p.datas ty t=true) w ρ C hd mb c false→CkS w ρ p ty nd hd→n=N→StV w ρ n s (.slice S0 s.ty.args.length s0) (.slice S1 s.ty.eff.regs.length s1) (.slice S2 s.ty.eff.vars.length s2) (.slice S3 s.args.length s3) (.slice S4 s.types.length s4) (.slice S5 s.effs.length s5) (.slice S6 s.regs.length s6) (.slice S7 s.modes.length s7) (.slice S8 s.keep.length s8) (.slice S9 s.blocks.length s9)→Fresh w ρ→OnlyCk ρ →
 Calls Try.prog 34 #[.pointer (some ⟨C,0,none⟩), .agg (stCells s (.slice S0 s.ty.args.length s0) (.slice S1 s.ty.eff.regs.length s1) (.slice S2 s.ty.eff.vars.length s2) (.slice S3 s.args.length s3) (.slice S4 s.types.length s4) (.slice S5 s.effs.length s5) (.slice S6 s.regs.length s6) (.slice S7 s.modes.length s7) (.slice S8 s.keep.length s8) (.slice S9 s.blocks.length s9)).toArray] w fun e w'=>∃ ρ',e= .returned (.bool (stepC p ty c s).isOk)∧CkP (fun t=>formed1 p.datas ty t=true) w ρ w' ρ' C hd mb c (stepC p ty c s)
theorem IntsR.elem {w:World} {ρ:Ghost} {A:Option Addr} {len c:Nat} {l:List Int} (h:IntsR w ρ (.slice A len c) l) {k:Nat} {x:Int} (hk:l[k]? =some x):∃ b o,A=some ⟨b,o,none⟩∧I64 x∧w.cell? ⟨b,o+k,none⟩=some (.int .i64 x)∧b<w.heap.size:=by
 obtain ⟨b,o,cs,rfl,_,⟨rfl,hx⟩,hc⟩:=SlR.get h hk
 have:=hc 0 _ rfl
 rw [Nat.mul_one,Nat.add_zero] at this
 exact ⟨b,o,rfl,hx,this,World.block_lt_of_cell? w ⟨b,o+k,none⟩ this⟩
theorem block_succ (p:Pg) (ty:Int) (nd N:Nat) (HSC:Hd (StepC p ty nd N)):BlockC p ty nd (N+1):=by
 intro w ρ C hd mb c b B1 B2 k1 k2 bn B cb nb code hC hK hR hBn hF hfr ho hcode
 obtain ⟨m,_,_,hNm,hcsb,hi1,hi2,hbi,hst⟩:=hR.shape
 simp only [List.cons.injEq,and_true,true_and] at hcsb
 obtain ⟨rfl,rfl⟩:=hcsb
 obtain rfl:N=m:=by omega
 have hbl:b.bind.length≤9223372036854775807:=by
  obtain ⟨_,_,hv,h2,h3⟩:=SlR.form hbi
  cases hv
  unfold maxLen at h3
  omega
 have hsl:b.steps.length≤9223372036854775807:=by
  obtain ⟨_,_,hv,h2,h3⟩:=SlR.form hst
  cases hv
  unfold maxLen at h3
  omega
 have HC:=Hd.mk hC
 have HK:=Hd.mk hK
 have HBI:=Hd.mk hbi
 have HST:Hd (StsR w ρ N (.slice B2 b.steps.length k2) b.steps):=⟨hst⟩
 have HBN:=Hd.mk hBn
 have HF:=Hd.mk hF
 have HFR:=Hd.mk hfr
 have HO:=Hd.mk ho
 have HI2:=Hd.mk hi2
 obtain ⟨r,hr⟩:∃ z,blockC p ty c bn code b=z:=⟨_,rfl⟩
 rw [hr]
 have HR:=Hd.mk ((blockC_eq p ty c bn code b).symm.trans hr)
 have hs1:=(Step.refl (fun _=>False) w ρ).alloc (.cells #[.int .i64 b.code, .slice B1 b.bind.length k1, .slice B2 b.steps.length k2, .int .i64 b.value] 46)
 have hb5:=blk4_new w (.int .i64 b.code) (.slice B1 b.bind.length k1) (.slice B2 b.steps.length k2) (.int .i64 b.value)
 have he1:=size_alloc w (.cells #[.int .i64 b.code, .slice B1 b.bind.length k1, .slice B2 b.steps.length k2, .int .i64 b.value] 46)
 have hs2:=hs1.alloc_tag (.cells #[.int .i64 0, .int .i64 0, .string ⟨#[]⟩, .slice none 0 0, .int .i64 0, .slice none 0 0, .slice none 0 0] 43) (50,1)
 have hb5':=hb5.alloc (.cells #[.int .i64 0, .int .i64 0, .string ⟨#[]⟩, .slice none 0 0, .int .i64 0, .slice none 0 0, .slice none 0 0] 43)
 have hb8:Blk ((w.alloc (.cells #[.int .i64 b.code, .slice B1 b.bind.length k1, .slice B2 b.steps.length k2, .int .i64 b.value] 46)).alloc (.cells #[.int .i64 0, .int .i64 0, .string ⟨#[]⟩, .slice none 0 0, .int .i64 0, .slice none 0 0, .slice none 0 0] 43)) (w.heap.size+1) 43 zeroTy:=Blk.newAt he1 zeroTy 43
 rw [he1] at hs2
 have HW:=Hd.mk (And.intro hs2 (And.intro hb5' hb8))
 clear hC hK hR hBn hF hfr ho hcode hbi hst hi1 hi2 hr hs1 hb5 he1 hs2 hb5' hb8 hNm
 go_enter_defers Try.func27,Try.ntmps27
 go_wp2_with fail
 generalize hX8:w.heap.size+1=X8 at *
 generalize (w.alloc (.cells #[.int .i64 b.code, .slice B1 b.bind.length k1, .slice B2 b.steps.length k2, .int .i64 b.value] 46)).alloc (.cells #[.int .i64 0, .int .i64 0, .string ⟨#[]⟩, .slice none 0 0, .int .i64 0, .slice none 0 0, .slice none 0 0] 43)=W2 at *
 have HS2:=Hd.mk HW.out.1
 have HB5:=Hd.mk HW.out.2.1
 have HB8:=Hd.mk HW.out.2.2
 have HX8:Hd (w.heap.size+1=X8):=⟨hX8⟩
 have HT8:Hd (ρ.put X8 (50,1) X8=some (50,1)):=⟨Ghost.put_same _ _ _⟩
 have HO2:Hd (OnlyCk (ρ.put X8 (50,1))):=⟨HO.out.put _ (by decide) (by decide)⟩
 have HN5:Hd (ρ.put X8 (50,1) w.heap.size=none):=⟨by rw [Ghost.put_ne _ _ (by omega)];exact HFR.out _ (Nat.le_refl _)⟩
 generalize ρ.put X8 (50,1)=ρ2 at *
 have HC2:=Hd.mk (HC.out.step HS2.out (fun _ _ h=>h))
 have HP2:Hd (CkP (fun t=>formed1 p.datas ty t=true) w ρ W2 ρ2 C hd mb c (.ok c)):=⟨HS2.out.mono (fun _ h=>h.elim),HO2.out,c,HC2.out,Nat.le_refl _,fun c1 h=>by cases h;rfl⟩
 obtain ⟨A,cp,h23,_,_,_,_,_,_⟩:=HC2.out.form
 generalize hX5:w.heap.size=X5 at *
 have HX5:=Hd.mk hX5
 have e50:W2.cell? ⟨X5,0,none⟩=some (.int .i64 b.code):=HB5.out.cell (i:=0) rfl
 have e51:W2.cell? ⟨X5,1,none⟩=some (.slice B1 b.bind.length k1):=HB5.out.cell (i:=1) rfl
 have u0:W2.cell? ⟨X8,0,none⟩=some (.int .i64 0):=HB8.out.cell (i:=0) rfl
 have f0:W2.frozen? ⟨X8,0,none⟩=false:=HB8.out.free 0
 have u1:W2.cell? ⟨X8,1,none⟩=some (.int .i64 0):=HB8.out.cell (i:=1) rfl
 have f1:W2.frozen? ⟨X8,1,none⟩=false:=HB8.out.free 1
 have u2:W2.cell? ⟨X8,2,none⟩=some (.string ⟨#[]⟩):=HB8.out.cell (i:=2) rfl
 have f2:W2.frozen? ⟨X8,2,none⟩=false:=HB8.out.free 2
 have u3:W2.cell? ⟨X8,3,none⟩=some (.slice none 0 0):=HB8.out.cell (i:=3) rfl
 have f3:W2.frozen? ⟨X8,3,none⟩=false:=HB8.out.free 3
 have u4:W2.cell? ⟨X8,4,none⟩=some (.int .i64 0):=HB8.out.cell (i:=4) rfl
 have f4:W2.frozen? ⟨X8,4,none⟩=false:=HB8.out.free 4
 have u5:W2.cell? ⟨X8,5,none⟩=some (.slice none 0 0):=HB8.out.cell (i:=5) rfl
 have f5:W2.frozen? ⟨X8,5,none⟩=false:=HB8.out.free 5
 have u6:W2.cell? ⟨X8,6,none⟩=some (.slice none 0 0):=HB8.out.cell (i:=6) rfl
 have f6:W2.frozen? ⟨X8,6,none⟩=false:=HB8.out.free 6
 clear HW hX8 hX5
 refine (height_any W2 C 23 A c.seen.length cp h23).mono ?_
 rintro e w' ⟨rfl,rfl⟩
 clear h23
 by_cases hcd:b.code=code
 ·by_cases hln:b.bind.length=bn.length
  ·have hlni:((b.bind.length:Nat):Int)=((bn.length:Nat):Int):=by omega
   have HR2:=HR.out
   rw [if_neg (by simp [hcd,hln])] at HR2
   have HRR:=Hd.mk HR2
   have HCD:=Hd.mk hcd
   have HLN:=Hd.mk hln
   clear HR2 hln
   subst hcd
   go_wp2_with fail
   have HC0:=Hd.mk (And.intro e50 e51)
   clear e50 e51 hlni
   go_loopw [39] (fun vk wr=>∃ (k:Nat) (ck:CS) (ρk:Ghost),vk= .int .i64 k∧k≤b.bind.length∧c.binds b.bind bn=ck.binds (b.bind.drop k) (bn.drop k)∧CkP (fun t=>formed1 p.datas ty t=true) w ρ wr ρk C hd mb c (.ok ck)∧Step CkT W2 ρ2 wr ρk) (fun v _=>b.bind.length-(intOf v).toNat)
   case atStart=>exact ⟨0,c,ρ2,by simp,by omega,by simp,HP2.out,Step.refl _ _ _⟩
   case round =>
    obtain ⟨k,ck,ρk,rfl,hk,he,hP,hS⟩:=hrel
    have HE:=Hd.mk he
    have HP:=Hd.mk hP
    have HS:=Hd.mk hS
    have HB8k:=Hd.mk (hS.blk' HB8.out HT8.out (by rintro (h|h|h) <;> cases h))
    have HT8k:=Hd.mk (hS.tag HB8.out.lt HT8.out)
    have HB5k:=Hd.mk (hS.blk HB5.out (fun t ht=>by rw [HN5.out] at ht;cases ht))
    clear he hP hS u0 u1 u2 u3 u4 u5 u6 f0 f1 f2 f3 f4 f5 f6
    have u0:wr.cell? ⟨X8,0,none⟩=some (.int .i64 0):=HB8k.out.cell (i:=0) rfl
    have f0:wr.frozen? ⟨X8,0,none⟩=false:=HB8k.out.free 0
    have u1:wr.cell? ⟨X8,1,none⟩=some (.int .i64 0):=HB8k.out.cell (i:=1) rfl
    have f1:wr.frozen? ⟨X8,1,none⟩=false:=HB8k.out.free 1
    have u2:wr.cell? ⟨X8,2,none⟩=some (.string ⟨#[]⟩):=HB8k.out.cell (i:=2) rfl
    have f2:wr.frozen? ⟨X8,2,none⟩=false:=HB8k.out.free 2
    have u3:wr.cell? ⟨X8,3,none⟩=some (.slice none 0 0):=HB8k.out.cell (i:=3) rfl
    have f3:wr.frozen? ⟨X8,3,none⟩=false:=HB8k.out.free 3
    have u4:wr.cell? ⟨X8,4,none⟩=some (.int .i64 0):=HB8k.out.cell (i:=4) rfl
    have f4:wr.frozen? ⟨X8,4,none⟩=false:=HB8k.out.free 4
    have u5:wr.cell? ⟨X8,5,none⟩=some (.slice none 0 0):=HB8k.out.cell (i:=5) rfl
    have f5:wr.frozen? ⟨X8,5,none⟩=false:=HB8k.out.free 5
    have u6:wr.cell? ⟨X8,6,none⟩=some (.slice none 0 0):=HB8k.out.cell (i:=6) rfl
    have f6:wr.frozen? ⟨X8,6,none⟩=false:=HB8k.out.free 6
    by_cases hlt:k<b.bind.length
    ·have hltn:k<bn.length:=by have:=HLN.out;omega
     have hlti:(k:Int)<((b.bind.length:Nat):Int):=by omega
     have hltni:(k:Int)<((bn.length:Nat):Int):=by omega
     have hk0:(0:Int)≤k:=by omega
     obtain ⟨bI,oI,hIA,hI64,i0,lI⟩:=IntsR.elem (HBI.out.step HP.out.step) (List.getElem?_eq_getElem hlt)
     obtain ⟨bN,oN,mN,E0,g0,E1,g1,E2,g2,hNA,hmN,hRN,hTN,hcN⟩:=(HBN.out.step HP.out.step).elemC (List.getElem?_eq_getElem hltn)
     subst hIA
     subst hNA
     have hdr:=binds_drop (c:=ck) (List.getElem?_eq_getElem hlt) (List.getElem?_eq_getElem hltn)
     have hFx:=HF.out bn[k] (List.getElem_mem hltn)
     generalize b.bind[k]=v at *
     generalize bn[k]=x at *
     have q0:wr.cell? ⟨bN,oN+k*7,none⟩=some (.int .i64 x.kind):=hcN 0 _ rfl
     have q1:wr.cell? ⟨bN,oN+k*7+1,none⟩=some (.int .i64 x.n):=hcN 1 _ rfl
     have q2:wr.cell? ⟨bN,oN+k*7+2,none⟩=some (.string x.name):=hcN 2 _ rfl
     have q3:wr.cell? ⟨bN,oN+k*7+3,none⟩=some (.slice E0 x.args.length g0):=hcN 3 _ rfl
     have q4:wr.cell? ⟨bN,oN+k*7+4,none⟩=some (.int .i64 x.region):=hcN 4 _ rfl
     have q5:wr.cell? ⟨bN,oN+k*7+5,none⟩=some (.slice E1 x.eff.regs.length g1):=hcN 5 _ rfl
     have q6:wr.cell? ⟨bN,oN+k*7+6,none⟩=some (.slice E2 x.eff.vars.length g2):=hcN 6 _ rfl
     have lN:bN<wr.heap.size:=World.block_lt_of_cell? wr ⟨bN,_,none⟩ q0
     have hE2:=HE.out.trans hdr
     have hcall:=bind_ck (fun t=>formed1 p.datas ty t=true) wr ρk C hd mb ck v x E0 E1 E2 g0 g1 g2 HP.out.ck HP.out.only hI64 ⟨_,hRN⟩ hFx
     obtain ⟨rb,hrb⟩:∃ z,ck.bind v x=z:=⟨_,rfl⟩
     rw [hrb] at hcall hE2
     have HE3:=Hd.mk hE2
     have HCALL:=Hd.mk hcall
     clear hRN hTN hcN hmN hdr hFx hcall hrb hE2 HE
     go_wp2_with fail
     refine HCALL.out.mono ?_
     rintro e W5 ⟨ρ5,rfl,hP5⟩
     have HP5:=Hd.mk (HP.out.andThen hP5)
     have HS5:=Hd.mk (HS.out.trans hP5.step)
     have HB85:=Hd.mk (hP5.step.blk' HB8k.out HT8k.out (by rintro (h|h|h) <;> cases h))
     have HT85:=Hd.mk (hP5.step.tag HB8k.out.lt HT8k.out)
     clear hP5 q0 q1 q2 q3 q4 q5 q6 i0 lI lN u0 u1 u2 u3 u4 u5 u6 f0 f1 f2 f3 f4 f5 f6 HCALL
     cases rb with
     |none =>
      have hrr:r= .no:=by rw [←HRR.out,HE3.out];rfl
      subst hrr
      have u0:W5.cell? ⟨X8,0,none⟩=some (.int .i64 0):=HB85.out.cell (i:=0) rfl
      have f0:W5.frozen? ⟨X8,0,none⟩=false:=HB85.out.free 0
      have u1:W5.cell? ⟨X8,1,none⟩=some (.int .i64 0):=HB85.out.cell (i:=1) rfl
      have f1:W5.frozen? ⟨X8,1,none⟩=false:=HB85.out.free 1
      have u2:W5.cell? ⟨X8,2,none⟩=some (.string ⟨#[]⟩):=HB85.out.cell (i:=2) rfl
      have f2:W5.frozen? ⟨X8,2,none⟩=false:=HB85.out.free 2
      have u3:W5.cell? ⟨X8,3,none⟩=some (.slice none 0 0):=HB85.out.cell (i:=3) rfl
      have f3:W5.frozen? ⟨X8,3,none⟩=false:=HB85.out.free 3
      have u4:W5.cell? ⟨X8,4,none⟩=some (.int .i64 0):=HB85.out.cell (i:=4) rfl
      have f4:W5.frozen? ⟨X8,4,none⟩=false:=HB85.out.free 4
      have u5:W5.cell? ⟨X8,5,none⟩=some (.slice none 0 0):=HB85.out.cell (i:=5) rfl
      have f5:W5.frozen? ⟨X8,5,none⟩=false:=HB85.out.free 5
      have u6:W5.cell? ⟨X8,6,none⟩=some (.slice none 0 0):=HB85.out.cell (i:=6) rfl
      have f6:W5.frozen? ⟨X8,6,none⟩=false:=HB85.out.free 6
      go_wp2
      obtain ⟨hb9,hs9⟩:=sevenT HB85.out rfl HT85.out (.int .i64 0) (.int .i64 0) (.string ⟨#[]⟩) (.slice none 0 0) (.int .i64 0) (.slice none 0 0) (.slice none 0 0)
      obtain ⟨A9,n9,cp9,g1,g4,g2,g3,g5,g7,g6,g8⟩:=HP5.out.closeUp hs9 (fun b hb=>cellsSeven W5 X8 _ _ _ _ _ _ _ b (Nat.ne_of_lt (Nat.lt_of_lt_of_le hb (by have:=HX8.out;have:=HX5.out;omega))))
      have ht9:=(⟨1,TyR.step hs9 1 (zeroTy_any W5 ρ5)⟩:TyE _ ρ5 intT zeroTy)
      generalize (((((((W5.setCell ⟨X8,0,none⟩ (.int .i64 0)).setCell ⟨X8,1,none⟩ (.int .i64 0)).setCell ⟨X8,2,none⟩ (.string ⟨#[]⟩)).setCell ⟨X8,3,none⟩ (.slice none 0 0)).setCell ⟨X8,4,none⟩ (.int .i64 0)).setCell ⟨X8,5,none⟩ (.slice none 0 0)).setCell ⟨X8,6,none⟩ (.slice none 0 0))=W9 at *
      refine leaves_cons (f:=33) (args:= #[.pointer (some ⟨C,23,none⟩), .int .i64 (c.seen.length:Int)]) (by simp) (by simp [go_sem]) ?_
      refine (cut_d .returning _ C 23 A9 n9 cp9 c.seen.length g1 g4 g2 g3).mono ?_
      rintro e u' w'' ⟨rfl,rfl,rfl⟩
      have hb10:=hb9.setCell_ne (a:=⟨C,23,none⟩) (.slice A9 c.seen.length cp9) (by intro h;have h8:=HT85.out;rw [show X8=C from h,g7] at h8;cases h8)
      refine ⟨_,results_cell2 rfl _ _ X8 _ rfl hb10 Try.underlying43 rfl,?_⟩
      have ht10:=TyE.step ht9 g6
      exact ⟨ρ5,intT,none,none,none,0,0,0,rfl,ht10,fun r h=>(by cases h),(show CkP (fun t=>formed1 p.datas ty t=true) w ρ _ ρ5 C hd mb c .no from g8.no rfl)⟩
     |some c1 =>
      have HE4:Hd (c.binds b.bind bn=c1.binds (b.bind.drop (k+1)) (bn.drop (k+1))):=⟨HE3.out⟩
      go_wp2
      go_roundw
      case rel=>exact ⟨k+1,c1,ρ5,by go_num,by omega,HE4.out,HP5.out,HS5.out⟩
      case measure=>simp [intOf];omega
    ·have hke:k=b.bind.length:=by omega
     subst hke
     have hE:=HE.out
     rw [List.drop_length,binds_nil] at hE
     have hnl:¬b.bind.length<bn.length:=by have:=HLN.out;omega
     have hnl2:decide (b.bind.length<bn.length)=false:=by simpa using hnl
     have HRR2:Hd ((stepsC p ty ck b.steps).andThen (fun c2=>match c2.of b.value with|some t=> .ok (c2.cut c.seen.length,t)|none=> .no)=r):=⟨by rw [←HRR.out,hE]⟩
     have e52:wr.cell? ⟨X5,2,none⟩=some (.slice B2 b.steps.length k2):=HB5k.out.cell (i:=2) rfl
     clear hE HRR HE
     go_wp2_with fail
     clear hnl hnl2
     have HCK0:Hd True:=⟨trivial⟩
     clear u0 u1 u2 u3 u4 u5 u6 f0 f1 f2 f3 f4 f5 f6 e52
     go_loopw [57] (fun vi wr=>∃ (i:Nat) (ci:CS) (ρi:Ghost),vi= .int .i64 i∧i≤b.steps.length∧stepsC p ty ck b.steps=stepsC p ty ci (b.steps.drop i)∧CkP (fun t=>formed1 p.datas ty t=true) w ρ wr ρi C hd mb c (.ok ci)∧Step CkT W2 ρ2 wr ρi) (fun v _=>b.steps.length-(intOf v).toNat)
     case atStart=>exact ⟨0,ck,ρk,by simp,by omega,by simp,HP.out,HS.out⟩
     case round =>
      clear HP HS HB8k HT8k HB5k
      obtain ⟨i,ci,ρi,rfl,hi,he,hP,hS⟩:=hrel
      have HE:=Hd.mk he
      have HP:=Hd.mk hP
      have HS:=Hd.mk hS
      have HB8k:=Hd.mk (hS.blk' HB8.out HT8.out (by rintro (h|h|h) <;> cases h))
      have HT8k:=Hd.mk (hS.tag HB8.out.lt HT8.out)
      have HB5k:=Hd.mk (hS.blk HB5.out (fun t ht=>by rw [HN5.out] at ht;cases ht))
      clear he hP hS
      by_cases hlt:i<b.steps.length
      ·have hlti:(i:Int)<((b.steps.length:Nat):Int):=by omega
       have hi0:(0:Int)≤i:=by omega
       obtain ⟨bS,oS,va0,v1,v2,va,vt,ve,vr,vm,vk,vb,hSA,hV,hcA⟩:=(HST.out.step HP.out.step).elem (List.getElem?_eq_getElem hlt)
       subst hSA
       have hdr:=stepsC_drop (p:=p) (ty:=ty) (c:=ci) (List.getElem?_eq_getElem hlt)
       generalize b.steps[i]=s at *
       obtain ⟨_,_,_,_,_,hty,_,_,_,_,hy0,hy1,hy2⟩:=TyR.shape hV.ty
       simp only [List.cons.injEq,and_true,true_and] at hty
       obtain ⟨rfl,rfl,rfl⟩:=hty
       obtain ⟨a0,k0,rfl,hl0,hm0⟩:=SlR.form hy0
       obtain ⟨a1,k1',rfl,hl1,hm1⟩:=SlR.form hy1
       obtain ⟨a2,k2',rfl,hl2,hm2⟩:=SlR.form hy2
       obtain ⟨a3,k3,rfl,hl3,hm3⟩:=SlR.form hV.args
       obtain ⟨a4,k4,rfl,hl4,hm4⟩:=SlR.form hV.types
       obtain ⟨a5,k5,rfl,hl5,hm5⟩:=SlR.form hV.effs
       obtain ⟨a6,k6,rfl,hl6,hm6⟩:=SlR.form hV.regs
       obtain ⟨a7,k7,rfl,hl7,hm7⟩:=SlR.form hV.modes
       obtain ⟨a8,k8,rfl,hl8,hm8⟩:=SlR.form hV.keep
       obtain ⟨a9,k9,rfl,hl9,hm9⟩:=SlR.form hV.blocks
       clear hy0 hy1 hy2
       have HV:=Hd.mk hV
       have hE2:=HE.out.trans hdr
       obtain ⟨rs,hrs⟩:∃ z,stepC p ty ci s=z:=⟨_,rfl⟩
       rw [hrs] at hE2
       have HRS:=Hd.mk hrs
       have HE2:=Hd.mk hE2
       clear hV hdr hE2 hrs HE
       have hin:(Try.prog.info? 94).map (·.size)=some 19:=by kernel_rfl
       generalize hcs:stCells s _ _ _ _ _ _ _ _ _ _=cs at hcA
       have hcl:cs.length=19:=by rw [←hcs];rfl
       have hone:cs.toArray.all (·.oneCell')=true:=by rw [←hcs];exact stCells_one ..
       have hin2:(Try.prog.info? 94).map (·.size)=some cs.length:=by rw [hcl];exact hin
       have HSZ:Hd (cs.toArray.size=19):=⟨by rw [List.size_toArray,hcl]⟩
       have HCC:Hd (wr.rangeAt bS (oS+i*19) cs):=⟨hcA⟩
       have HIN:=Hd.mk hin2
       have HON:=Hd.mk hone
       have HAA:=Hd.mk ((Step.refl (fun _=>False) wr ρi).alloc (.cells cs.toArray 94))
       have HTA:=Hd.mk ((Step.refl (fun _=>False) wr ρi).alloc_tag (.cells cs.toArray 94) (50,2))
       have XS0:=Hd.mk (Blk.new' wr cs.toArray 94)
       have HCS:=Hd.mk hcs
       clear hcA hin hone hcs hin2 hcl
       go_wp2_with (first|(refine wpList_load_mid rfl 94 _ rfl bS (oS+i*19) rfl cs _ HCC.out Try.underlying94 rfl HIN.out ?_)|(refine wpList_store_newV rfl 94 _ _ rfl _ cs.toArray rfl rfl (by rw [List.size_toArray];exact HIN.out) (by exact (Eq.trans rfl HSZ.out.symm)) HON.out ?_))
       refine ⟨?_⟩
       generalize wr.alloc (.cells cs.toArray 94)=W14 at *
       generalize wr.heap.size=X14 at *
       have xs0:Blk W14 X14 94 cs:=XS0.out
       rw [←HCS.out] at xs0
       have XSA:=Hd.mk xs0
       clear xs0 XS0 HCS HON HIN HCC HSZ
       have hcall:=HSC.out W14 ρi C hd mb ci N s a0 a1 a2 a3 a4 a5 a6 a7 a8 a9 k0 k1' k2' k3 k4 k5 k6 k7 k8 k9 (HP.out.ck.step HAA.out (fun _ _ h=>h)) (HK.out.step (HP.out.step.trans (HAA.out.mono (fun _ h=>h.elim):Step CkT _ _ _ _))) rfl (HV.out.step HAA.out) ((HP.out.step.trans (HAA.out.mono (fun _ h=>h.elim):Step CkT _ _ _ _)).fresh HFR.out) HP.out.only
       rw [HRS.out] at hcall
       generalize hcs2:(stCells s (.slice a0 s.ty.args.length k0) (.slice a1 s.ty.eff.regs.length k1') (.slice a2 s.ty.eff.vars.length k2') (.slice a3 s.args.length k3) (.slice a4 s.types.length k4) (.slice a5 s.effs.length k5) (.slice a6 s.regs.length k6) (.slice a7 s.modes.length k7) (.slice a8 s.keep.length k8) (.slice a9 s.blocks.length k9))=cs2 at hcall XSA
       have HRNG:Hd (W14.rangeAt X14 0 cs2):=⟨fun j u hj=>by rw [Nat.zero_add];exact XSA.out.cell hj⟩
       have HIN:Hd ((Try.prog.info? 94).map (·.size)=some cs2.length):=⟨by rw [←hcs2];kernel_rfl⟩
       have HCALL:=Hd.mk hcall
       have HPA:=Hd.mk (HP.out.after HAA.out)
       clear hcall hcs2
       go_wp2_with (refine wpList_load_mid rfl 94 _ rfl X14 0 rfl cs2 _ HRNG.out Try.underlying94 rfl HIN.out ?_)
       refine HCALL.out.mono ?_
       rintro e W5 ⟨ρ5,rfl,hP5⟩
       have HP5:=Hd.mk (HPA.out.andThen hP5)
       have HS5:=Hd.mk ((HS.out.trans (HAA.out.mono (fun _ h=>h.elim):Step CkT _ _ _ _)).trans hP5.step)
       have HB85:=Hd.mk (HS5.out.blk' HB8.out HT8.out (by rintro (h|h|h) <;> cases h))
       have HT85:=Hd.mk (HS5.out.tag HB8.out.lt HT8.out)
       clear hP5 HCALL
       cases rs with
       |no =>
        have hrr:r= .no:=by rw [←HRR2.out,HE2.out];rfl
        subst hrr
        simp only [Rs.isOk]
        have u0:W5.cell? ⟨X8,0,none⟩=some (.int .i64 0):=HB85.out.cell (i:=0) rfl
        have f0:W5.frozen? ⟨X8,0,none⟩=false:=HB85.out.free 0
        have u1:W5.cell? ⟨X8,1,none⟩=some (.int .i64 0):=HB85.out.cell (i:=1) rfl
        have f1:W5.frozen? ⟨X8,1,none⟩=false:=HB85.out.free 1
        have u2:W5.cell? ⟨X8,2,none⟩=some (.string ⟨#[]⟩):=HB85.out.cell (i:=2) rfl
        have f2:W5.frozen? ⟨X8,2,none⟩=false:=HB85.out.free 2
        have u3:W5.cell? ⟨X8,3,none⟩=some (.slice none 0 0):=HB85.out.cell (i:=3) rfl
        have f3:W5.frozen? ⟨X8,3,none⟩=false:=HB85.out.free 3
        have u4:W5.cell? ⟨X8,4,none⟩=some (.int .i64 0):=HB85.out.cell (i:=4) rfl
        have f4:W5.frozen? ⟨X8,4,none⟩=false:=HB85.out.free 4
        have u5:W5.cell? ⟨X8,5,none⟩=some (.slice none 0 0):=HB85.out.cell (i:=5) rfl
        have f5:W5.frozen? ⟨X8,5,none⟩=false:=HB85.out.free 5
        have u6:W5.cell? ⟨X8,6,none⟩=some (.slice none 0 0):=HB85.out.cell (i:=6) rfl
        have f6:W5.frozen? ⟨X8,6,none⟩=false:=HB85.out.free 6
        go_wp2
        obtain ⟨hb9,hs9⟩:=sevenT HB85.out rfl HT85.out (.int .i64 0) (.int .i64 0) (.string ⟨#[]⟩) (.slice none 0 0) (.int .i64 0) (.slice none 0 0) (.slice none 0 0)
        obtain ⟨A9,n9,cp9,g1,g4,g2,g3,g5,g7,g6,g8⟩:=HP5.out.closeUp hs9 (fun b hb=>cellsSeven W5 X8 _ _ _ _ _ _ _ b (Nat.ne_of_lt (Nat.lt_of_lt_of_le hb (by have:=HX8.out;have:=HX5.out;omega))))
        have ht9:=(⟨1,TyR.step hs9 1 (zeroTy_any W5 ρ5)⟩:TyE _ ρ5 intT zeroTy)
        generalize (((((((W5.setCell ⟨X8,0,none⟩ (.int .i64 0)).setCell ⟨X8,1,none⟩ (.int .i64 0)).setCell ⟨X8,2,none⟩ (.string ⟨#[]⟩)).setCell ⟨X8,3,none⟩ (.slice none 0 0)).setCell ⟨X8,4,none⟩ (.int .i64 0)).setCell ⟨X8,5,none⟩ (.slice none 0 0)).setCell ⟨X8,6,none⟩ (.slice none 0 0))=W9 at *
        refine leaves_cons (f:=33) (args:= #[.pointer (some ⟨C,23,none⟩), .int .i64 (c.seen.length:Int)]) (by simp) (by simp [go_sem]) ?_
        refine (cut_d .returning _ C 23 A9 n9 cp9 c.seen.length g1 g4 g2 g3).mono ?_
        rintro e u' w'' ⟨rfl,rfl,rfl⟩
        have hb10:=hb9.setCell_ne (a:=⟨C,23,none⟩) (.slice A9 c.seen.length cp9) (by intro h;have h8:=HT85.out;rw [show X8=C from h,g7] at h8;cases h8)
        refine ⟨_,results_cell2 rfl _ _ X8 _ rfl hb10 Try.underlying43 rfl,?_⟩
        have ht10:=TyE.step ht9 g6
        exact ⟨ρ5,intT,none,none,none,0,0,0,rfl,ht10,fun r h=>(by cases h),(show CkP (fun t=>formed1 p.datas ty t=true) w ρ _ ρ5 C hd mb c .no from g8)⟩
       |big =>
        have hrr:r= .big:=by rw [←HRR2.out,HE2.out];rfl
        subst hrr
        simp only [Rs.isOk]
        have u0:W5.cell? ⟨X8,0,none⟩=some (.int .i64 0):=HB85.out.cell (i:=0) rfl
        have f0:W5.frozen? ⟨X8,0,none⟩=false:=HB85.out.free 0
        have u1:W5.cell? ⟨X8,1,none⟩=some (.int .i64 0):=HB85.out.cell (i:=1) rfl
        have f1:W5.frozen? ⟨X8,1,none⟩=false:=HB85.out.free 1
        have u2:W5.cell? ⟨X8,2,none⟩=some (.string ⟨#[]⟩):=HB85.out.cell (i:=2) rfl
        have f2:W5.frozen? ⟨X8,2,none⟩=false:=HB85.out.free 2
        have u3:W5.cell? ⟨X8,3,none⟩=some (.slice none 0 0):=HB85.out.cell (i:=3) rfl
        have f3:W5.frozen? ⟨X8,3,none⟩=false:=HB85.out.free 3
        have u4:W5.cell? ⟨X8,4,none⟩=some (.int .i64 0):=HB85.out.cell (i:=4) rfl
        have f4:W5.frozen? ⟨X8,4,none⟩=false:=HB85.out.free 4
        have u5:W5.cell? ⟨X8,5,none⟩=some (.slice none 0 0):=HB85.out.cell (i:=5) rfl
        have f5:W5.frozen? ⟨X8,5,none⟩=false:=HB85.out.free 5
        have u6:W5.cell? ⟨X8,6,none⟩=some (.slice none 0 0):=HB85.out.cell (i:=6) rfl
        have f6:W5.frozen? ⟨X8,6,none⟩=false:=HB85.out.free 6
        go_wp2
        obtain ⟨hb9,hs9⟩:=sevenT HB85.out rfl HT85.out (.int .i64 0) (.int .i64 0) (.string ⟨#[]⟩) (.slice none 0 0) (.int .i64 0) (.slice none 0 0) (.slice none 0 0)
        obtain ⟨A9,n9,cp9,g1,g4,g2,g3,g5,g7,g6,g8⟩:=HP5.out.closeUp hs9 (fun b hb=>cellsSeven W5 X8 _ _ _ _ _ _ _ b (Nat.ne_of_lt (Nat.lt_of_lt_of_le hb (by have:=HX8.out;have:=HX5.out;omega))))
        have ht9:=(⟨1,TyR.step hs9 1 (zeroTy_any W5 ρ5)⟩:TyE _ ρ5 intT zeroTy)
        generalize (((((((W5.setCell ⟨X8,0,none⟩ (.int .i64 0)).setCell ⟨X8,1,none⟩ (.int .i64 0)).setCell ⟨X8,2,none⟩ (.string ⟨#[]⟩)).setCell ⟨X8,3,none⟩ (.slice none 0 0)).setCell ⟨X8,4,none⟩ (.int .i64 0)).setCell ⟨X8,5,none⟩ (.slice none 0 0)).setCell ⟨X8,6,none⟩ (.slice none 0 0))=W9 at *
        refine leaves_cons (f:=33) (args:= #[.pointer (some ⟨C,23,none⟩), .int .i64 (c.seen.length:Int)]) (by simp) (by simp [go_sem]) ?_
        refine (cut_d .returning _ C 23 A9 n9 cp9 c.seen.length g1 g4 g2 g3).mono ?_
        rintro e u' w'' ⟨rfl,rfl,rfl⟩
        have hb10:=hb9.setCell_ne (a:=⟨C,23,none⟩) (.slice A9 c.seen.length cp9) (by intro h;have h8:=HT85.out;rw [show X8=C from h,g7] at h8;cases h8)
        refine ⟨_,results_cell2 rfl _ _ X8 _ rfl hb10 Try.underlying43 rfl,?_⟩
        have ht10:=TyE.step ht9 g6
        exact ⟨ρ5,intT,none,none,none,0,0,0,rfl,ht10,fun r h=>(by cases h),(show CkP (fun t=>formed1 p.datas ty t=true) w ρ _ ρ5 C hd mb c .big from g8)⟩
       |ok c1 =>
        have HE4:Hd (stepsC p ty ck b.steps=stepsC p ty c1 (b.steps.drop (i+1))):=⟨HE2.out⟩
        simp only [Rs.isOk]
        go_wp2
        go_roundw
        case rel=>exact ⟨i+1,c1,ρ5,by go_num,by omega,HE4.out,HP5.out,HS5.out⟩
        case measure=>simp [intOf];omega
      ·have hie:i=b.steps.length:=by omega
       subst hie
       have hE:=HE.out
       rw [List.drop_length,stepsC] at hE
       have hr3:=HRR2.out
       rw [hE] at hr3
       have HR3:=Hd.mk hr3
       have e53:wr.cell? ⟨X5,3,none⟩=some (.int .i64 b.value):=HB5k.out.cell (i:=3) rfl
       have hcall:=of_any (fun t=>formed1 p.datas ty t=true) wr ρi C hd mb ci false b.value HP.out.ck HI2.out
       have HCALL:=Hd.mk hcall
       clear hE hr3 HE HRR2 hcall
       go_wp2_with fail
       refine HCALL.out.mono ?_
       rintro e W5 ⟨tn,va,v1,v2,rfl,⟨nt,hTn⟩,hof,hb5⟩
       obtain ⟨m0,_,_,_,_,hcs0,_,_,_,_,hy1,hy2,hy3⟩:=hTn.shape
       simp only [tyCells,List.cons.injEq,and_true,true_and] at hcs0
       obtain ⟨rfl,rfl,rfl⟩:=hcs0
       obtain ⟨D0,d0,rfl,_,_⟩:=SlR.form hy1
       obtain ⟨D1,d1,rfl,_,_⟩:=SlR.form hy2
       obtain ⟨D2,d2,rfl,_,_⟩:=SlR.form hy3
       have hs5:=Step.ofBelow ρi hb5
       have HP5:=Hd.mk (HP.out.after hs5)
       have HB85:=Hd.mk (hs5.blk HB8k.out (fun _ _ h=>h))
       have HT85:=HT8k
       have HTN:=Hd.mk hTn
       have HOF:=Hd.mk hof
       clear hs5 hTn hof hb5 hy1 hy2 hy3 HCALL e53
       simp only [tyCells]
       cases hcof:ci.of b.value with
       |none =>
        have hrr:r= .no:=by rw [←HR3.out];show (match ci.of b.value with|some t=>Rs.ok (ci.cut c.seen.length,t)|none=> .no)= .no;rw [hcof]
        subst hrr
        simp only [Option.isSome_none]
        have HCOF:=Hd.mk hcof
        clear hcof
        have u0:W5.cell? ⟨X8,0,none⟩=some (.int .i64 0):=HB85.out.cell (i:=0) rfl
        have f0:W5.frozen? ⟨X8,0,none⟩=false:=HB85.out.free 0
        have u1:W5.cell? ⟨X8,1,none⟩=some (.int .i64 0):=HB85.out.cell (i:=1) rfl
        have f1:W5.frozen? ⟨X8,1,none⟩=false:=HB85.out.free 1
        have u2:W5.cell? ⟨X8,2,none⟩=some (.string ⟨#[]⟩):=HB85.out.cell (i:=2) rfl
        have f2:W5.frozen? ⟨X8,2,none⟩=false:=HB85.out.free 2
        have u3:W5.cell? ⟨X8,3,none⟩=some (.slice none 0 0):=HB85.out.cell (i:=3) rfl
        have f3:W5.frozen? ⟨X8,3,none⟩=false:=HB85.out.free 3
        have u4:W5.cell? ⟨X8,4,none⟩=some (.int .i64 0):=HB85.out.cell (i:=4) rfl
        have f4:W5.frozen? ⟨X8,4,none⟩=false:=HB85.out.free 4
        have u5:W5.cell? ⟨X8,5,none⟩=some (.slice none 0 0):=HB85.out.cell (i:=5) rfl
        have f5:W5.frozen? ⟨X8,5,none⟩=false:=HB85.out.free 5
        have u6:W5.cell? ⟨X8,6,none⟩=some (.slice none 0 0):=HB85.out.cell (i:=6) rfl
        have f6:W5.frozen? ⟨X8,6,none⟩=false:=HB85.out.free 6
        go_wp2
        obtain ⟨hb9,hs9⟩:=sevenT HB85.out rfl HT85.out (.int .i64 tn.kind) (.int .i64 tn.n) (.string tn.name) (.slice D0 tn.args.length d0) (.int .i64 tn.region) (.slice D1 tn.eff.regs.length d1) (.slice D2 tn.eff.vars.length d2)
        obtain ⟨A9,n9,cp9,g1,g4,g2,g3,g5,g7,g6,g8⟩:=HP5.out.closeUp hs9 (fun b hb=>cellsSeven W5 X8 _ _ _ _ _ _ _ b (Nat.ne_of_lt (Nat.lt_of_lt_of_le hb (by have:=HX8.out;have:=HX5.out;omega))))
        have ht9:=(⟨nt,TyR.step hs9 _ HTN.out⟩:TyE _ ρi tn (tyCells tn (.slice D0 tn.args.length d0) (.slice D1 tn.eff.regs.length d1) (.slice D2 tn.eff.vars.length d2)))
        generalize (((((((W5.setCell ⟨X8,0,none⟩ (.int .i64 tn.kind)).setCell ⟨X8,1,none⟩ (.int .i64 tn.n)).setCell ⟨X8,2,none⟩ (.string tn.name)).setCell ⟨X8,3,none⟩ (.slice D0 tn.args.length d0)).setCell ⟨X8,4,none⟩ (.int .i64 tn.region)).setCell ⟨X8,5,none⟩ (.slice D1 tn.eff.regs.length d1)).setCell ⟨X8,6,none⟩ (.slice D2 tn.eff.vars.length d2))=W9 at *
        refine leaves_cons (f:=33) (args:= #[.pointer (some ⟨C,23,none⟩), .int .i64 (c.seen.length:Int)]) (by simp) (by simp [go_sem]) ?_
        refine (cut_d .returning _ C 23 A9 n9 cp9 c.seen.length g1 g4 g2 g3).mono ?_
        rintro e u' w'' ⟨rfl,rfl,rfl⟩
        have hb10:=hb9.setCell_ne (a:=⟨C,23,none⟩) (.slice A9 c.seen.length cp9) (by intro h;have h8:=HT85.out;rw [show X8=C from h,g7] at h8;cases h8)
        refine ⟨_,results_cell2 rfl _ _ X8 _ rfl hb10 Try.underlying43 rfl,?_⟩
        have ht10:=TyE.step ht9 g6
        exact ⟨ρi,tn,D0,D1,D2,d0,d1,d2,rfl,ht10,fun r h=>(by cases h),(show CkP (fun t=>formed1 p.datas ty t=true) w ρ _ ρi C hd mb c .no from g8.no rfl)⟩
       |some t0 =>
        have hrr:r= .ok (ci.cut c.seen.length,t0):=by rw [←HR3.out];show (match ci.of b.value with|some t=>Rs.ok (ci.cut c.seen.length,t)|none=> .no)=_;rw [hcof]
        subst hrr
        have HFT:=Hd.mk (HOF.out t0 hcof)
        simp only [Option.isSome_some]
        clear hcof
        have u0:W5.cell? ⟨X8,0,none⟩=some (.int .i64 0):=HB85.out.cell (i:=0) rfl
        have f0:W5.frozen? ⟨X8,0,none⟩=false:=HB85.out.free 0
        have u1:W5.cell? ⟨X8,1,none⟩=some (.int .i64 0):=HB85.out.cell (i:=1) rfl
        have f1:W5.frozen? ⟨X8,1,none⟩=false:=HB85.out.free 1
        have u2:W5.cell? ⟨X8,2,none⟩=some (.string ⟨#[]⟩):=HB85.out.cell (i:=2) rfl
        have f2:W5.frozen? ⟨X8,2,none⟩=false:=HB85.out.free 2
        have u3:W5.cell? ⟨X8,3,none⟩=some (.slice none 0 0):=HB85.out.cell (i:=3) rfl
        have f3:W5.frozen? ⟨X8,3,none⟩=false:=HB85.out.free 3
        have u4:W5.cell? ⟨X8,4,none⟩=some (.int .i64 0):=HB85.out.cell (i:=4) rfl
        have f4:W5.frozen? ⟨X8,4,none⟩=false:=HB85.out.free 4
        have u5:W5.cell? ⟨X8,5,none⟩=some (.slice none 0 0):=HB85.out.cell (i:=5) rfl
        have f5:W5.frozen? ⟨X8,5,none⟩=false:=HB85.out.free 5
        have u6:W5.cell? ⟨X8,6,none⟩=some (.slice none 0 0):=HB85.out.cell (i:=6) rfl
        have f6:W5.frozen? ⟨X8,6,none⟩=false:=HB85.out.free 6
        go_wp2
        obtain ⟨hb9,hs9⟩:=sevenT HB85.out rfl HT85.out (.int .i64 tn.kind) (.int .i64 tn.n) (.string tn.name) (.slice D0 tn.args.length d0) (.int .i64 tn.region) (.slice D1 tn.eff.regs.length d1) (.slice D2 tn.eff.vars.length d2)
        obtain ⟨A9,n9,cp9,g1,g4,g2,g3,g5,g7,g6,g8⟩:=HP5.out.closeUp hs9 (fun b hb=>cellsSeven W5 X8 _ _ _ _ _ _ _ b (Nat.ne_of_lt (Nat.lt_of_lt_of_le hb (by have:=HX8.out;have:=HX5.out;omega))))
        have ht9:=(⟨nt,TyR.step hs9 _ HTN.out⟩:TyE _ ρi tn (tyCells tn (.slice D0 tn.args.length d0) (.slice D1 tn.eff.regs.length d1) (.slice D2 tn.eff.vars.length d2)))
        generalize (((((((W5.setCell ⟨X8,0,none⟩ (.int .i64 tn.kind)).setCell ⟨X8,1,none⟩ (.int .i64 tn.n)).setCell ⟨X8,2,none⟩ (.string tn.name)).setCell ⟨X8,3,none⟩ (.slice D0 tn.args.length d0)).setCell ⟨X8,4,none⟩ (.int .i64 tn.region)).setCell ⟨X8,5,none⟩ (.slice D1 tn.eff.regs.length d1)).setCell ⟨X8,6,none⟩ (.slice D2 tn.eff.vars.length d2))=W9 at *
        refine leaves_cons (f:=33) (args:= #[.pointer (some ⟨C,23,none⟩), .int .i64 (c.seen.length:Int)]) (by simp) (by simp [go_sem]) ?_
        refine (cut_d .returning _ C 23 A9 n9 cp9 c.seen.length g1 g4 g2 g3).mono ?_
        rintro e u' w'' ⟨rfl,rfl,rfl⟩
        have hb10:=hb9.setCell_ne (a:=⟨C,23,none⟩) (.slice A9 c.seen.length cp9) (by intro h;have h8:=HT85.out;rw [show X8=C from h,g7] at h8;cases h8)
        refine ⟨_,results_cell2 rfl _ _ X8 _ rfl hb10 Try.underlying43 rfl,?_⟩
        have ht10:=TyE.step ht9 g6
        exact ⟨ρi,tn,D0,D1,D2,d0,d1,d2,rfl,ht10,fun r h=>by cases h;exact ⟨HFT.out.1.symm,HFT.out.2⟩,(show CkP (fun t=>formed1 p.datas ty t=true) w ρ _ ρi C hd mb c (.ok (ci.cut c.seen.length)) from g8)⟩
  ·have hlni:¬((b.bind.length:Nat):Int)=((bn.length:Nat):Int):=by omega
   have hlnb:(((b.bind.length:Nat):Int) == ((bn.length:Nat):Int))=false:=by simpa using hlni
   have hlnn:(((b.bind.length:Nat):Int) != ((bn.length:Nat):Int))=true:=by simpa using hlni
   have hrr:r= .no:=by rw [←HR.out,if_pos (.inr hln)]
   subst hrr
   subst hcd
   clear hln
   go_wp2
   obtain ⟨hb9,hs9⟩:=sevenT HB8.out rfl HT8.out (.int .i64 0) (.int .i64 0) (.string ⟨#[]⟩) (.slice none 0 0) (.int .i64 0) (.slice none 0 0) (.slice none 0 0)
   obtain ⟨A9,n9,cp9,g1,g4,g2,g3,g5,g7,g6,g8⟩:=HP2.out.closeUp hs9 (fun b hb=>cellsSeven W2 X8 _ _ _ _ _ _ _ b (Nat.ne_of_lt (Nat.lt_of_lt_of_le hb (by have:=HX8.out;have:=HX5.out;omega))))
   have ht9:=(⟨1,TyR.step hs9 1 (zeroTy_any W2 ρ2)⟩:TyE _ ρ2 intT zeroTy)
   generalize (((((((W2.setCell ⟨X8,0,none⟩ (.int .i64 0)).setCell ⟨X8,1,none⟩ (.int .i64 0)).setCell ⟨X8,2,none⟩ (.string ⟨#[]⟩)).setCell ⟨X8,3,none⟩ (.slice none 0 0)).setCell ⟨X8,4,none⟩ (.int .i64 0)).setCell ⟨X8,5,none⟩ (.slice none 0 0)).setCell ⟨X8,6,none⟩ (.slice none 0 0))=W9 at *
   refine leaves_cons (f:=33) (args:= #[.pointer (some ⟨C,23,none⟩), .int .i64 (c.seen.length:Int)]) (by simp) (by simp [go_sem]) ?_
   refine (cut_d .returning _ C 23 A9 n9 cp9 c.seen.length g1 g4 g2 g3).mono ?_
   rintro e u' w'' ⟨rfl,rfl,rfl⟩
   have hb10:=hb9.setCell_ne (a:=⟨C,23,none⟩) (.slice A9 c.seen.length cp9) (by intro h;have h8:=HT8.out;rw [show X8=C from h,g7] at h8;cases h8)
   refine ⟨_,results_cell2 rfl _ _ X8 _ rfl hb10 Try.underlying43 rfl,?_⟩
   have ht10:=TyE.step ht9 g6
   exact ⟨ρ2,intT,none,none,none,0,0,0,rfl,ht10,fun r h=>(by cases h),(show CkP (fun t=>formed1 p.datas ty t=true) w ρ _ ρ2 C hd mb c .no from g8.no rfl)⟩
 ·have hcb:(b.code == code)=false:=by simpa using hcd
  have hcn:(b.code != code)=true:=by simpa using hcd
  have hrr:r= .no:=by rw [←HR.out,if_pos (.inl hcd)]
  subst hrr
  go_wp2
  obtain ⟨hb9,hs9⟩:=sevenT HB8.out rfl HT8.out (.int .i64 0) (.int .i64 0) (.string ⟨#[]⟩) (.slice none 0 0) (.int .i64 0) (.slice none 0 0) (.slice none 0 0)
  obtain ⟨A9,n9,cp9,g1,g4,g2,g3,g5,g7,g6,g8⟩:=HP2.out.closeUp hs9 (fun b hb=>cellsSeven W2 X8 _ _ _ _ _ _ _ b (Nat.ne_of_lt (Nat.lt_of_lt_of_le hb (by have:=HX8.out;have:=HX5.out;omega))))
  have ht9:=(⟨1,TyR.step hs9 1 (zeroTy_any W2 ρ2)⟩:TyE _ ρ2 intT zeroTy)
  generalize (((((((W2.setCell ⟨X8,0,none⟩ (.int .i64 0)).setCell ⟨X8,1,none⟩ (.int .i64 0)).setCell ⟨X8,2,none⟩ (.string ⟨#[]⟩)).setCell ⟨X8,3,none⟩ (.slice none 0 0)).setCell ⟨X8,4,none⟩ (.int .i64 0)).setCell ⟨X8,5,none⟩ (.slice none 0 0)).setCell ⟨X8,6,none⟩ (.slice none 0 0))=W9 at *
  refine leaves_cons (f:=33) (args:= #[.pointer (some ⟨C,23,none⟩), .int .i64 (c.seen.length:Int)]) (by simp) (by simp [go_sem]) ?_
  refine (cut_d .returning _ C 23 A9 n9 cp9 c.seen.length g1 g4 g2 g3).mono ?_
  rintro e u' w'' ⟨rfl,rfl,rfl⟩
  have hb10:=hb9.setCell_ne (a:=⟨C,23,none⟩) (.slice A9 c.seen.length cp9) (by intro h;have h8:=HT8.out;rw [show X8=C from h,g7] at h8;cases h8)
  refine ⟨_,results_cell2 rfl _ _ X8 _ rfl hb10 Try.underlying43 rfl,?_⟩
  have ht10:=TyE.step ht9 g6
  exact ⟨ρ2,intT,none,none,none,0,0,0,rfl,ht10,fun r h=>(by cases h),(show CkP (fun t=>formed1 p.datas ty t=true) w ρ _ ρ2 C hd mb c .no from g8.no rfl)⟩
end
end Go.Proofs.Ytadffbgbndibpaa
