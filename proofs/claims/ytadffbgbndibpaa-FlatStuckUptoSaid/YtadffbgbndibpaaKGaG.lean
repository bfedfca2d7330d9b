/- GaG: lemmas and walks of the claim. -/
import Derived.Test.YtadffbgbndibpaaKGaF
set_option linter.unusedVariables false
set_option linter.unusedSimpArgs false
set_option maxHeartbeats 16000000
set_option maxRecDepth 100000
namespace Go.Proofs.Ytadffbgbndibpaa
open Go Go.RowKit
theorem keepU_of {T:Tag→Prop} {W wv:World} {ρ ρ':Ghost} (h:Step T W ρ wv ρ'):∀ a:Addr,a.block<W.heap.size→ρ a.block=none→wv.cell? a=W.cell? a :=
 fun a ha hn=>World.cell?_of_block (h.block a.block ha (fun t ht=>by rw [hn] at ht;cases ht))
theorem cellSetNe {wv:World} {a:Addr} {X:Nat} (h:a.block≠X) (j:Nat) (v:Value):(wv.setCell ⟨X,j,none⟩ v).cell? a=wv.cell? a :=
 World.cell?_of_block (Below.heap_setCell wv ⟨X,j,none⟩ v a.block h)
theorem LtsR.elem {w:World} {ρ:Ghost} {n:Nat} {A:Option Addr} {len c:Nat} {l:List (List Ty)} (h:LtsR w ρ n (.slice A len c) l) {k:Nat} {x:List Ty} (hk:l[k]? =some x) :
 ∃ b o A' c',A=some ⟨b,o,none⟩∧ρ b=none∧b<w.heap.size∧TysR w ρ n (.slice A' x.length c') x∧w.cell? ⟨b,o+k,none⟩=some (.slice A' x.length c'):=by
 obtain ⟨A0,c0,h1,_,_,_,h5⟩:=h.out
 cases h1
 obtain ⟨b,o,cs,e1,e2,e3,e4,⟨A',c',rfl,e5⟩,e6⟩:=h5 k x hk
 have:=e6 0 _ rfl
 rw [Nat.mul_one,Nat.add_zero] at this
 exact ⟨b,o,A',c',e1,e2,e3,e5,this⟩
theorem blk4_new (w:World) (v0 v1 v2 v3:Value):Blk (w.alloc (.cells #[v0,v1,v2,v3] 46)) w.heap.size 46 [v0,v1,v2,v3]:=Blk.new w [v0,v1,v2,v3] 46
theorem valuesC_drop {p:Pg} {ty:Int} {c:CS} {bs:List (List Ty)} {t:Ty} {l:List Bk} {k:Nat} {b:Bk} {bn:List Ty} (h:l[k]? =some b) (hb:bs[k]? =some bn) :
 valuesC p ty c (bs.drop k) t (l.drop k)=(blockC p ty c bn 0 b).andThen fun r=>if sameL [r.2] [t] then valuesC p ty r.1 (bs.drop (k+1)) t (l.drop (k+1)) else .no:=by
 rw [drop_cons h,drop_cons hb,valuesC]
 rfl
section
variable {F:Ty→Prop}
include F
theorem CkP.no {w w':World} {ρ ρ':Ghost} {C:Nat} {hd:List Value} {mb:Nat} {c:CS} {res:Rs CS} (h:CkP F w ρ w' ρ' C hd mb c res) (hb:res.isBig=false):CkP F w ρ w' ρ' C hd mb c .no:=by
 obtain ⟨c',h1,h2,_⟩:=h.st
 exact ⟨h.step,h.only,c',by rw [hb] at h1;exact h1,h2,fun c1 h=>by cases h⟩
theorem CkP.andThen {w w1 w2:World} {ρ ρ1 ρ2:Ghost} {C:Nat} {hd:List Value} {mb:Nat} {c c1:CS} {r2:Rs CS} (h1:CkP F w ρ w1 ρ1 C hd mb c (.ok c1)) (h2:CkP F w1 ρ1 w2 ρ2 C hd mb c1 r2):CkP F w ρ w2 ρ2 C hd mb c r2:=by
 obtain ⟨c1',k1,k2,k3⟩:=h1.st
 have:=k3 c1 rfl
 subst this
 obtain ⟨c2,l1,l2,l3⟩:=h2.st
 exact ⟨h1.step.trans h2.step,h2.only,c2,l1,Nat.le_trans k2 l2,l3⟩
theorem CkP.after {w w1 w2:World} {ρ ρ1:Ghost} {C:Nat} {hd:List Value} {mb:Nat} {c:CS} {r:Rs CS} (h1:CkP F w ρ w1 ρ1 C hd mb c r) (h2:Step (fun _=>False) w1 ρ1 w2 ρ1):CkP F w ρ w2 ρ1 C hd mb c r:=by
 obtain ⟨c1',k1,k2,k3⟩:=h1.st
 exact ⟨h1.step.trans (h2.mono (fun _ h=>h.elim)),h1.only,c1',k1.step h2 (fun _ _ h=>h),k2,k3⟩
theorem CkP.refl {w:World} {ρ:Ghost} {C:Nat} {hd:List Value} {mb:Nat} {c:CS} (h:CkR F w ρ C hd mb c false) (ho:OnlyCk ρ):CkP F w ρ w ρ C hd mb c (.ok c) :=
 ⟨Step.refl _ _ _,ho,c,h,Nat.le_refl _,fun c1 h=>by cases h;rfl⟩
theorem CkP.ck {w w':World} {ρ ρ':Ghost} {C:Nat} {hd:List Value} {mb:Nat} {c c1:CS} (h:CkP F w ρ w' ρ' C hd mb c (.ok c1)):CkR F w' ρ' C hd mb c1 false:=by
 obtain ⟨c',k1,k2,k3⟩:=h.st
 have:=k3 c1 rfl
 subst this
 exact k1
end
theorem seven {W:World} {ρ:Ghost} {X:Nat} (hb:Blk W X 43 zeroTy) (ht:ρ X=some (50,0)) (v0 v1 v2 v3 v4 v5 v6:Value) :
 Blk (((((((W.setCell ⟨X,0,none⟩ v0).setCell ⟨X,1,none⟩ v1).setCell ⟨X,2,none⟩ v2).setCell ⟨X,3,none⟩ v3).setCell ⟨X,4,none⟩ v4).setCell ⟨X,5,none⟩ v5).setCell ⟨X,6,none⟩ v6) X 43 [v0,v1,v2,v3,v4,v5,v6] ∧
 Step (fun t=>t=(50,0)) W ρ (((((((W.setCell ⟨X,0,none⟩ v0).setCell ⟨X,1,none⟩ v1).setCell ⟨X,2,none⟩ v2).setCell ⟨X,3,none⟩ v3).setCell ⟨X,4,none⟩ v4).setCell ⟨X,5,none⟩ v5).setCell ⟨X,6,none⟩ v6) ρ :=
 ⟨((((((hb.setCell 0 v0).setCell 1 v1).setCell 2 v2).setCell 3 v3).setCell 4 v4).setCell 5 v5).setCell 6 v6,
  (((((((Step.refl (fun t=>t=(50,0)) W ρ).setCell (a:=⟨X,0,none⟩) ht rfl v0).setCell (a:=⟨X,1,none⟩) ht rfl v1).setCell (a:=⟨X,2,none⟩) ht rfl v2).setCell (a:=⟨X,3,none⟩) ht rfl v3).setCell (a:=⟨X,4,none⟩) ht rfl v4).setCell (a:=⟨X,5,none⟩) ht rfl v5).setCell (a:=⟨X,6,none⟩) ht rfl v6⟩
theorem cellsSeven (W:World) (X:Nat) (v0 v1 v2 v3 v4 v5 v6:Value) (b:Nat) (hb:b≠X) :
 (((((((W.setCell ⟨X,0,none⟩ v0).setCell ⟨X,1,none⟩ v1).setCell ⟨X,2,none⟩ v2).setCell ⟨X,3,none⟩ v3).setCell ⟨X,4,none⟩ v4).setCell ⟨X,5,none⟩ v5).setCell ⟨X,6,none⟩ v6).heap[b]? =W.heap[b]? :=by
 rw [Below.heap_setCell _ _ _ _ hb,Below.heap_setCell _ _ _ _ hb,Below.heap_setCell _ _ _ _ hb,Below.heap_setCell _ _ _ _ hb,Below.heap_setCell _ _ _ _ hb,Below.heap_setCell _ _ _ _ hb,Below.heap_setCell _ _ _ _ hb]
theorem CkP.afterT {F:Ty→Prop} {w w1 w2:World} {ρ ρ1:Ghost} {C:Nat} {hd:List Value} {mb:Nat} {c:CS} {r:Rs CS} (h1:CkP F w ρ w1 ρ1 C hd mb c r) (h2:Step (fun t=>t=(50,0)) w1 ρ1 w2 ρ1) (h3:∀ b,b<w.heap.size→w2.heap[b]? =w1.heap[b]?):CkP F w ρ w2 ρ1 C hd mb c r:=by
 obtain ⟨c1',k1,k2,k3⟩:=h1.st
 exact ⟨⟨h2.os.trans h1.step.os,h2.tape.trans h1.step.tape,h2.output.trans h1.step.output,Nat.le_trans h1.step.size h2.size,h1.step.ghost,fun k hk hn=>(h3 k hk).trans (h1.step.block k hk hn),fun f=>h2.fresh (h1.step.fresh f)⟩,h1.only,c1',k1.step h2 (fun t ht he=>by subst he;rcases ht with h|h|h <;> cases h),k2,k3⟩
theorem blocks_any (p:Pg) (ty:Int) (nd N:Nat) (HBC:Hd (BlockC p ty nd N)) (w:World) (ρ:Ghost) (C:Nat) (hd:List Value) (mb:Nat) (c:CS) (l:List Bk) (bs:List (List Ty)) (t:Ty) (L B:Option Addr) (cl cb nb nt:Nat) (A0 A1 A2:Option Addr) (c0 c1 c2:Nat) (hC:CkR (fun t=>formed1 p.datas ty t=true) w ρ C hd mb c false) (hK:CkS w ρ p ty nd hd) (hL:BksR w ρ N (.slice L l.length cl) l) (hB:LtsR w ρ nb (.slice B bs.length cb) bs) (hlen:bs.length=l.length) (hF:∀ x t,x ∈ bs→t ∈ x→formed1 p.datas ty t=true) (hT:TyR w ρ nt t (tyCells t (.slice A0 t.args.length c0) (.slice A1 t.eff.regs.length c1) (.slice A2 t.eff.vars.length c2))) (hfr:Fresh w ρ) (ho:OnlyCk ρ) :
 Calls Try.prog 54 #[.pointer (some ⟨C,0,none⟩), .slice L l.length cl, .slice B bs.length cb, .agg #[.int .i64 t.kind, .int .i64 t.n, .string t.name, .slice A0 t.args.length c0, .int .i64 t.region, .slice A1 t.eff.regs.length c1, .slice A2 t.eff.vars.length c2]] w fun e w' =>
  ∃ ρ',e= .returned (.bool (valuesC p ty c bs t l).isOk)∧CkP (fun t=>formed1 p.datas ty t=true) w ρ w' ρ' C hd mb c (valuesC p ty c bs t l):=by
 have hll:l.length≤9223372036854775807:=by
  obtain ⟨_,_,hv,h2,h3⟩:=SlR.form hL
  cases hv
  unfold maxLen at h3
  omega
 have HC:=Hd.mk hC
 have HK:=Hd.mk hK
 have HL:=Hd.mk hL
 have HB:=Hd.mk hB
 have HT:=Hd.mk hT
 have HF:=Hd.mk hF
 have HFR:=Hd.mk hfr
 have HO:=Hd.mk ho
 have HLEN:=Hd.mk hlen
 have HS1:=Hd.mk ((Step.refl (fun _=>False) w ρ).alloc (.cells #[.int .i64 t.kind, .int .i64 t.n, .string t.name, .slice A0 t.args.length c0, .int .i64 t.region, .slice A1 t.eff.regs.length c1, .slice A2 t.eff.vars.length c2] 43))
 have HB7:=Hd.mk (Blk.new w (tyCells t (.slice A0 t.args.length c0) (.slice A1 t.eff.regs.length c1) (.slice A2 t.eff.vars.length c2)) 43)
 have HP0:=Hd.mk ((CkP.refl hC ho).after HS1.out)
 obtain ⟨r,hr⟩:∃ z,valuesC p ty c bs t l=z:=⟨_,rfl⟩
 rw [hr]
 have HR:=Hd.mk hr
 clear hC hK hL hB hT hF hfr ho hlen hr
 go_enter Try.func54,Try.ntmps54
 go_wp2_with fail
 have hXl:w.heap.size<(w.alloc (.cells #[.int .i64 t.kind, .int .i64 t.n, .string t.name, .slice A0 t.args.length c0, .int .i64 t.region, .slice A1 t.eff.regs.length c1, .slice A2 t.eff.vars.length c2] 43)).heap.size:=by simp
 have HX7N:Hd (ρ w.heap.size=none):=⟨HFR.out _ (Nat.le_refl _)⟩
 generalize hX7:w.heap.size=X7 at *
 generalize hW1:w.alloc (.cells #[.int .i64 t.kind, .int .i64 t.n, .string t.name, .slice A0 t.args.length c0, .int .i64 t.region, .slice A1 t.eff.regs.length c1, .slice A2 t.eff.vars.length c2] 43)=W1 at *
 have HB71:Hd (Blk W1 X7 43 (tyCells t (.slice A0 t.args.length c0) (.slice A1 t.eff.regs.length c1) (.slice A2 t.eff.vars.length c2))):=⟨hW1 ▸ HB7.out⟩
 have HX7:=Hd.mk hX7
 clear hW1 HB7 hX7
 go_loopw [15] (fun vk wr=>∃ (k:Nat) (ck:CS) (ρk:Ghost),vk= .int .i64 k∧k≤l.length∧valuesC p ty c bs t l=valuesC p ty ck (bs.drop k) t (l.drop k)∧CkP (fun t=>formed1 p.datas ty t=true) w ρ wr ρk C hd mb c (.ok ck)∧Step CkT W1 ρ wr ρk) (fun v _=>l.length-(intOf v).toNat)
 case atStart=>exact ⟨0,c,ρ,by simp,by omega,by simp,HP0.out,Step.refl _ _ _⟩
 case round =>
  obtain ⟨k,ck,ρk,rfl,hk,he,hP,hS1⟩:=hrel
  have HE:=Hd.mk he
  have HP:=Hd.mk hP
  have HS1k:=Hd.mk hS1
  clear he hP hS1
  by_cases hlt:k<l.length
  ·have hlti:(k:Int)<l.length:=by omega
   have hk0:(0:Int)≤k:=by omega
   have hltb:k<bs.length:=by have:=HLEN.out;omega
   have hltbi:(k:Int)<bs.length:=by omega
   obtain ⟨bL,oL,vb,vs,hLA,hRb,p0,p1,p2,p3⟩:=(HL.out.step HP.out.step).elem (List.getElem?_eq_getElem hlt)
   obtain ⟨mN,_,_,hmN,hcsb,_,_,hbi,hst⟩:=hRb.shape
   simp only [List.cons.injEq,and_true,true_and] at hcsb
   obtain ⟨rfl,rfl⟩:=hcsb
   obtain ⟨B1,k1,rfl,_,_⟩:=SlR.form hbi
   obtain ⟨B2,k2,rfl,_,_⟩:=SlR.form hst
   obtain ⟨bB,oB,E1,g1,hBA,hBN,hBl,hTB,pB⟩:=(HB.out.step HP.out.step).elem (List.getElem?_eq_getElem hltb)
   subst hLA
   subst hBA
   have hdr:=valuesC_drop (p:=p) (ty:=ty) (c:=ck) (t:=t) (List.getElem?_eq_getElem hlt) (List.getElem?_eq_getElem hltb)
   have hFB:=HF.out bs[k]
   have hmem:bs[k] ∈ bs:=List.getElem_mem hltb
   generalize l[k]=b at *
   generalize bs[k]=bn at *
   have HE2:=Hd.mk (HE.out.trans hdr)
   have HFB:=Hd.mk (hFB · hmem)
   have HRB:=Hd.mk hRb
   have HTB:=Hd.mk hTB
   have lL:bL<wr.heap.size:=World.block_lt_of_cell? wr ⟨bL,_,none⟩ p0
   clear hdr hFB hmem hRb hTB hbi hst hmN HE
   go_wp2_with fail
   have HSX:=Hd.mk ((Step.refl (fun _=>False) wr ρk).alloc (.cells #[.int .i64 b.code, .slice B1 b.bind.length k1, .slice B2 b.steps.length k2, .int .i64 b.value] 46))
   have hbx:=blk4_new wr (.int .i64 b.code) (.slice B1 b.bind.length k1) (.slice B2 b.steps.length k2) (.int .i64 b.value)
   have hXN:ρk wr.heap.size=none:=HP.out.step.fresh HFR.out _ (Nat.le_refl _)
   have pB2:=HSX.out.cell (a:=⟨bB,oB+k,none⟩) hBl hBN pB
   have lB2:bB<(wr.alloc (.cells #[.int .i64 b.code, .slice B1 b.bind.length k1, .slice B2 b.steps.length k2, .int .i64 b.value] 46)).heap.size:=by have:=HSX.out.size;omega
   generalize wr.alloc (.cells #[.int .i64 b.code, .slice B1 b.bind.length k1, .slice B2 b.steps.length k2, .int .i64 b.value] 46)=W2 at *
   generalize wr.heap.size=X2 at *
   have q0:W2.cell? ⟨X2,0,none⟩=some (.int .i64 b.code):=hbx.cell (i:=0) rfl
   have q1:W2.cell? ⟨X2,1,none⟩=some (.slice B1 b.bind.length k1):=hbx.cell (i:=1) rfl
   have q2:W2.cell? ⟨X2,2,none⟩=some (.slice B2 b.steps.length k2):=hbx.cell (i:=2) rfl
   have q3:W2.cell? ⟨X2,3,none⟩=some (.int .i64 b.value):=hbx.cell (i:=3) rfl
   have lX2:=hbx.lt
   have HP2:=Hd.mk (HP.out.after HSX.out)
   have HS12:=Hd.mk (HS1k.out.trans (HSX.out.mono (fun _ h=>h.elim)))
   obtain ⟨rb,hrb⟩:∃ z,blockC p ty ck bn 0 b=z:=⟨_,rfl⟩
   have hbk:∀ Wc ρc,Step (fun _=>False) W2 ρk Wc ρc→OnlyCk ρc→Calls Try.prog 27 #[.pointer (some ⟨C,0,none⟩), .agg #[.int .i64 b.code, .slice B1 b.bind.length k1, .slice B2 b.steps.length k2, .int .i64 b.value], .slice E1 bn.length g1, .int .i64 0] Wc fun e w' =>
    ∃ ρ' tn D0 D1 D2 d0 d1 d2,e= .returned (.tuple #[.agg #[.int .i64 tn.kind, .int .i64 tn.n, .string tn.name, .slice D0 tn.args.length d0, .int .i64 tn.region, .slice D1 tn.eff.regs.length d1, .slice D2 tn.eff.vars.length d2], .bool rb.isOk])∧TyE w' ρ' tn (tyCells tn (.slice D0 tn.args.length d0) (.slice D1 tn.eff.regs.length d1) (.slice D2 tn.eff.vars.length d2))∧(∀ r,rb= .ok r→tn=r.2∧formed1 p.datas ty tn=true)∧CkP (fun t=>formed1 p.datas ty t=true) Wc ρc w' ρ' C hd mb ck (rb.andThen fun r=> .ok r.1):=fun Wc ρc hWc hoc=>by
    have hs:=HSX.out.trans hWc
    have hh:=HBC.out Wc ρc C hd mb ck b B1 B2 k1 k2 bn E1 g1 nb 0 (HP.out.ck.step hs (fun _ _ h=>h)) (HK.out.step (HP.out.step.trans (hs.mono (fun _ h=>h.elim):Step CkT _ _ _ _))) (BkR.step hs _ HRB.out) (HTB.out.step hs) HFB.out ((HP.out.step.trans (hs.mono (fun _ h=>h.elim):Step CkT _ _ _ _)).fresh HFR.out) hoc ⟨by decide,by decide⟩
    rw [hrb] at hh
    exact hh
   have HBK:=Hd.mk hbk
   have HRBB:=Hd.mk hrb
   have HSc:=Hd.mk ((Step.refl CkT W2 ρk).drew)
   rw [hrb] at HE2
   clear p0 p1 p2 p3 pB hbk hrb hBl
   have HBZ:Hd (Blk (W2.alloc (.cells #[.int .i64 0, .int .i64 0, .string ⟨#[]⟩, .slice none 0 0, .int .i64 0, .slice none 0 0, .slice none 0 0] 43)).drew W2.heap.size 43 zeroTy):=⟨(Blk.new W2 zeroTy 43).drew⟩
   have HX2N:Hd (ρk W2.heap.size=none):=⟨HP2.out.step.fresh HFR.out _ (Nat.le_refl _)⟩
   go_wp2_with fail
   go_region_held3 (fun wv=>∀ a:Addr,a.block<W2.heap.size→ρk a.block=none→wv.cell? a=W2.cell? a) ((intro a ha hn;have hne:a.block≠W2.heap.size:=Nat.ne_of_lt ha;(try simp only [cellSetNe hne]);with_reducible (first|exact keepU_of HSc.out a ha hn|exact keepU_of (HSc.out.alloc _) a ha hn|exact keepU_of (((Step.refl CkT W2 ρk).alloc _).drew) a ha hn))) (first|(with_reducible (show Calls _ _ _ W2.drew _);go_at_call 27;refine (HBK.out W2.drew ρk ((Step.refl _ W2 ρk).drew) (HP2.out.only)).mono ?_;rintro e Wn ⟨ρn,tn,D0,D1,D2,d0,d1,d2,rfl,hTn,hok,hPn⟩;have HSc:Hd (Step CkT W2 ρk Wn ρn):=⟨((Step.refl CkT W2 ρk).drew).trans hPn.step⟩;have HTN:=Hd.mk hTn;have HOKN:=Hd.mk hok;have HA:Hd True:=⟨trivial⟩;have HPN:Hd (CkP (fun t=>formed1 p.datas ty t=true) W2 ρk Wn ρn C hd mb ck (rb.andThen fun r=> .ok r.1)):=⟨⟨HSc.out,hPn.only,hPn.st⟩⟩;clear hTn hok hPn)|(go_at_call 27;refine (HBK.out ((W2.alloc (.cells #[.int .i64 0, .int .i64 0, .string ⟨#[]⟩, .slice none 0 0, .int .i64 0, .slice none 0 0, .slice none 0 0] 43)).drew) (ρk.put W2.heap.size (50,0)) (((Step.refl _ W2 ρk).alloc_tag (.cells #[.int .i64 0, .int .i64 0, .string ⟨#[]⟩, .slice none 0 0, .int .i64 0, .slice none 0 0, .slice none 0 0] 43) (50,0)).drew) (HP2.out.only.put _ (by decide) (by decide))).mono ?_;rintro e Wn ⟨ρn,tn,D0,D1,D2,d0,d1,d2,rfl,hTn,hok,hPn⟩;have HSc:Hd (Step CkT W2 ρk Wn ρn):=⟨(((Step.refl CkT W2 ρk).alloc_tag (.cells #[.int .i64 0, .int .i64 0, .string ⟨#[]⟩, .slice none 0 0, .int .i64 0, .slice none 0 0, .slice none 0 0] 43) (50,0)).drew).trans hPn.step⟩;have HTN:=Hd.mk hTn;have HOKN:=Hd.mk hok;have hz:=hPn.step.blk' HBZ.out (Ghost.put_same _ _ _) (by rintro (h|h|h) <;> cases h);have gz0:=hz.cell (i:=0) (v:= .int .i64 0) rfl;have fz0:=hz.free 0;have gz1:=hz.cell (i:=1) (v:= .int .i64 0) rfl;have fz1:=hz.free 1;have gz2:=hz.cell (i:=2) (v:= .string ⟨#[]⟩) rfl;have fz2:=hz.free 2;have gz3:=hz.cell (i:=3) (v:= .slice none 0 0) rfl;have fz3:=hz.free 3;have gz4:=hz.cell (i:=4) (v:= .int .i64 0) rfl;have fz4:=hz.free 4;have gz5:=hz.cell (i:=5) (v:= .slice none 0 0) rfl;have fz5:=hz.free 5;have gz6:=hz.cell (i:=6) (v:= .slice none 0 0) rfl;have fz6:=hz.free 6;have HZ:=Hd.mk hz;have HA:=Hd.mk (hPn.step.tag HBZ.out.lt (Ghost.put_same ρk W2.heap.size (50,0)));clear hz;have HPN:Hd (CkP (fun t=>formed1 p.datas ty t=true) W2 ρk Wn ρn C hd mb ck (rb.andThen fun r=> .ok r.1)):=⟨⟨HSc.out,hPn.only,hPn.st⟩⟩;clear hTn hok hPn))
   ·rename_i hH
    clear hH
    have hb5:Blk (Wn.alloc (.cells #[.int .i64 tn.kind, .int .i64 tn.n, .string tn.name, .slice D0 tn.args.length d0, .int .i64 tn.region, .slice D1 tn.eff.regs.length d1, .slice D2 tn.eff.vars.length d2] 43)) Wn.heap.size 43 (tyCells tn (.slice D0 tn.args.length d0) (.slice D1 tn.eff.regs.length d1) (.slice D2 tn.eff.vars.length d2)):=Blk.new Wn (tyCells tn (.slice D0 tn.args.length d0) (.slice D1 tn.eff.regs.length d1) (.slice D2 tn.eff.vars.length d2)) 43
    have hs5:=(Step.refl (fun _=>False) Wn ρn).alloc (.cells #[.int .i64 tn.kind, .int .i64 tn.n, .string tn.name, .slice D0 tn.args.length d0, .int .i64 tn.region, .slice D1 tn.eff.regs.length d1, .slice D2 tn.eff.vars.length d2] 43)
    have hp5:=HPN.out.after hs5
    have ht5:=HTN.out.step hs5
    clear hs5
    generalize Wn.alloc (.cells #[.int .i64 tn.kind, .int .i64 tn.n, .string tn.name, .slice D0 tn.args.length d0, .int .i64 tn.region, .slice D1 tn.eff.regs.length d1, .slice D2 tn.eff.vars.length d2] 43)=W5 at *
    generalize Wn.heap.size=X5 at *
    have hp:=HP2.out.andThen hp5
    have hb7:=(HS12.out.trans hp5.step).blk HB71.out (fun t ht=>by rw [HX7N.out] at ht;cases ht)
    have hs15:=HS12.out.trans hp5.step
    have HP5:=Hd.mk hp
    have HB7:=Hd.mk hb7
    have HB5:=Hd.mk hb5
    have HT5:=Hd.mk ht5
    have HS15:=Hd.mk hs15
    clear hp hb7 hb5 ht5 hs15 hp5 q0 q1 q2 q3 pB2 lB2 lX2
    cases rb with
    |no =>
     have hrr:r= .no:=by rw [←HR.out,HE2.out];rfl
     subst hrr
     simp only [Rs.isOk]
     go_wp2
     go_ret
     exact ⟨ρn,rfl,HP5.out⟩
    |big =>
     have hrr:r= .big:=by rw [←HR.out,HE2.out];rfl
     subst hrr
     simp only [Rs.isOk]
     go_wp2
     go_ret
     exact ⟨ρn,rfl,HP5.out⟩
    |ok r1 =>
     obtain ⟨e1,hf1⟩:=HOKN.out r1 rfl
     have hEr:r=if sameL [tn] [t] then valuesC p ty r1.1 (bs.drop (k+1)) t (l.drop (k+1)) else .no:=by rw [←HR.out,HE2.out,e1];rfl
     have HER:=Hd.mk hEr
     have HP6:Hd (CkP (fun t=>formed1 p.datas ty t=true) w ρ W5 ρn C hd mb c (.ok r1.1)):=HP5
     have y0:W5.cell? ⟨X5,0,none⟩=some (.int .i64 tn.kind):=HB5.out.cell (i:=0) rfl
     have y1:W5.cell? ⟨X5,1,none⟩=some (.int .i64 tn.n):=HB5.out.cell (i:=1) rfl
     have y2:W5.cell? ⟨X5,2,none⟩=some (.string tn.name):=HB5.out.cell (i:=2) rfl
     have y3:W5.cell? ⟨X5,3,none⟩=some (.slice D0 tn.args.length d0):=HB5.out.cell (i:=3) rfl
     have y4:W5.cell? ⟨X5,4,none⟩=some (.int .i64 tn.region):=HB5.out.cell (i:=4) rfl
     have y5:W5.cell? ⟨X5,5,none⟩=some (.slice D1 tn.eff.regs.length d1):=HB5.out.cell (i:=5) rfl
     have y6:W5.cell? ⟨X5,6,none⟩=some (.slice D2 tn.eff.vars.length d2):=HB5.out.cell (i:=6) rfl
     have z0:W5.cell? ⟨X7,0,none⟩=some (.int .i64 t.kind):=HB7.out.cell (i:=0) rfl
     have z1:W5.cell? ⟨X7,1,none⟩=some (.int .i64 t.n):=HB7.out.cell (i:=1) rfl
     have z2:W5.cell? ⟨X7,2,none⟩=some (.string t.name):=HB7.out.cell (i:=2) rfl
     have z3:W5.cell? ⟨X7,3,none⟩=some (.slice A0 t.args.length c0):=HB7.out.cell (i:=3) rfl
     have z4:W5.cell? ⟨X7,4,none⟩=some (.int .i64 t.region):=HB7.out.cell (i:=4) rfl
     have z5:W5.cell? ⟨X7,5,none⟩=some (.slice A1 t.eff.regs.length c1):=HB7.out.cell (i:=5) rfl
     have z6:W5.cell? ⟨X7,6,none⟩=some (.slice A2 t.eff.vars.length c2):=HB7.out.cell (i:=6) rfl
     have l5:=HB5.out.lt
     have l7:=HB7.out.lt
     simp only [Rs.isOk]
     obtain ⟨z,hz⟩:∃ z,sameL [tn] [t]=z:=⟨_,rfl⟩
     have HZZ:=Hd.mk hz
     clear e1 hf1 hEr hz
     go_wp2_with fail
     have hfr5:=HP6.out.step.fresh HFR.out
     have hc6:=Blk.new' W5 #[.int .i64 tn.kind, .int .i64 tn.n, .string tn.name, .slice D0 tn.args.length d0, .int .i64 tn.region, .slice D1 tn.eff.regs.length d1, .slice D2 tn.eff.vars.length d2] 43
     have hs6:=(Step.refl (fun _=>False) W5 ρn).alloc (.cells #[.int .i64 tn.kind, .int .i64 tn.n, .string tn.name, .slice D0 tn.args.length d0, .int .i64 tn.region, .slice D1 tn.eff.regs.length d1, .slice D2 tn.eff.vars.length d2] 43)
     have he6:=size_alloc W5 (.cells #[.int .i64 tn.kind, .int .i64 tn.n, .string tn.name, .slice D0 tn.args.length d0, .int .i64 tn.region, .slice D1 tn.eff.regs.length d1, .slice D2 tn.eff.vars.length d2] 43)
     generalize W5.alloc (.cells #[.int .i64 tn.kind, .int .i64 tn.n, .string tn.name, .slice D0 tn.args.length d0, .int .i64 tn.region, .slice D1 tn.eff.regs.length d1, .slice D2 tn.eff.vars.length d2] 43)=W6 at *
     have hc7:=Blk.new' W6 #[.int .i64 t.kind, .int .i64 t.n, .string t.name, .slice A0 t.args.length c0, .int .i64 t.region, .slice A1 t.eff.regs.length c1, .slice A2 t.eff.vars.length c2] 43
     have hs7:=(Step.refl (fun _=>False) W6 ρn).alloc (.cells #[.int .i64 t.kind, .int .i64 t.n, .string t.name, .slice A0 t.args.length c0, .int .i64 t.region, .slice A1 t.eff.regs.length c1, .slice A2 t.eff.vars.length c2] 43)
     rw [he6] at hc7
     generalize W6.alloc (.cells #[.int .i64 t.kind, .int .i64 t.n, .string t.name, .slice A0 t.args.length c0, .int .i64 t.region, .slice A1 t.eff.regs.length c1, .slice A2 t.eff.vars.length c2] 43)=W7 at *
     obtain ⟨nn,ht5⟩:=HT5.out
     have hT0:=TyR.step (HP6.out.step.trans ((hs6.trans hs7).mono (fun _ h=>h.elim):Step CkT _ _ _ _)) _ HT.out
     have o1:=TysR.one (t:=tn) (hs7.blk hc6 (fun _ _ h=>h)) (hfr5 _ (Nat.le_refl _)) (TyR.step (hs6.trans hs7) _ ht5)
     have o2:=TysR.one (t:=t) hc7 (hfr5 _ (by omega)) hT0
     have hcall:=same_any nn nt W7 ρn [tn] [t] _ _ _ _ o1 o2
     rw [HZZ.out] at hcall
     have HCALL:=Hd.mk hcall
     have HS57:=Hd.mk (hs6.trans hs7)
     clear hfr5 hc6 hs6 he6 hc7 hs7 ht5 hT0 o1 o2 hcall
     refine HCALL.out.mono ?_
     rintro e W8 ⟨rfl,hd8⟩
     have HP8:=Hd.mk (HP6.out.after (HS57.out.trans (hd8.step ρn)))
     have HS18:=Hd.mk (HS15.out.trans ((HS57.out.trans (hd8.step ρn)).mono (fun _ h=>h.elim):Step CkT _ _ _ _))
     clear hd8 HCALL
     cases z with
     |false =>
      have hrr:r= .no:=by rw [HER.out,HZZ.out];rfl
      subst hrr
      go_wp2
      go_ret
      exact ⟨ρn,rfl,HP8.out.no rfl⟩
     |true =>
      have hE3:r=valuesC p ty r1.1 (bs.drop (k+1)) t (l.drop (k+1)):=by rw [HER.out,HZZ.out];rfl
      have HE3:=Hd.mk (HR.out.trans hE3)
      clear hE3
      go_wp2
      go_roundw
      case rel=>exact ⟨k+1,r1.1,ρn,by go_num,by omega,HE3.out,HP8.out,HS18.out⟩
      case measure=>simp [intOf];omega
   ·rename_i hH
    clear hH
    obtain ⟨hb5,hs5⟩:=seven HZ.out HA.out (.int .i64 tn.kind) (.int .i64 tn.n) (.string tn.name) (.slice D0 tn.args.length d0) (.int .i64 tn.region) (.slice D1 tn.eff.regs.length d1) (.slice D2 tn.eff.vars.length d2)
    have hp5:=HPN.out.afterT hs5 (fun b hb=>cellsSeven Wn W2.heap.size _ _ _ _ _ _ _ b (Nat.ne_of_lt hb))
    have ht5:=HTN.out.step hs5
    clear HZ HA gz0 gz1 gz2 gz3 gz4 gz5 gz6 fz0 fz1 fz2 fz3 fz4 fz5 fz6 hs5
    generalize (((((((Wn.setCell ⟨W2.heap.size,0,none⟩ (.int .i64 tn.kind)).setCell ⟨W2.heap.size,1,none⟩ (.int .i64 tn.n)).setCell ⟨W2.heap.size,2,none⟩ (.string tn.name)).setCell ⟨W2.heap.size,3,none⟩ (.slice D0 tn.args.length d0)).setCell ⟨W2.heap.size,4,none⟩ (.int .i64 tn.region)).setCell ⟨W2.heap.size,5,none⟩ (.slice D1 tn.eff.regs.length d1)).setCell ⟨W2.heap.size,6,none⟩ (.slice D2 tn.eff.vars.length d2))=W5 at *
    generalize W2.heap.size=X5 at *
    have hp:=HP2.out.andThen hp5
    have hb7:=(HS12.out.trans hp5.step).blk HB71.out (fun t ht=>by rw [HX7N.out] at ht;cases ht)
    have hs15:=HS12.out.trans hp5.step
    have HP5:=Hd.mk hp
    have HB7:=Hd.mk hb7
    have HB5:=Hd.mk hb5
    have HT5:=Hd.mk ht5
    have HS15:=Hd.mk hs15
    clear hp hb7 hb5 ht5 hs15 hp5 q0 q1 q2 q3 pB2 lB2 lX2
    cases rb with
    |no =>
     have hrr:r= .no:=by rw [←HR.out,HE2.out];rfl
     subst hrr
     simp only [Rs.isOk]
     go_wp2
     go_ret
     exact ⟨ρn,rfl,HP5.out⟩
    |big =>
     have hrr:r= .big:=by rw [←HR.out,HE2.out];rfl
     subst hrr
     simp only [Rs.isOk]
     go_wp2
     go_ret
     exact ⟨ρn,rfl,HP5.out⟩
    |ok r1 =>
     obtain ⟨e1,hf1⟩:=HOKN.out r1 rfl
     have hEr:r=if sameL [tn] [t] then valuesC p ty r1.1 (bs.drop (k+1)) t (l.drop (k+1)) else .no:=by rw [←HR.out,HE2.out,e1];rfl
     have HER:=Hd.mk hEr
     have HP6:Hd (CkP (fun t=>formed1 p.datas ty t=true) w ρ W5 ρn C hd mb c (.ok r1.1)):=HP5
     have y0:W5.cell? ⟨X5,0,none⟩=some (.int .i64 tn.kind):=HB5.out.cell (i:=0) rfl
     have y1:W5.cell? ⟨X5,1,none⟩=some (.int .i64 tn.n):=HB5.out.cell (i:=1) rfl
     have y2:W5.cell? ⟨X5,2,none⟩=some (.string tn.name):=HB5.out.cell (i:=2) rfl
     have y3:W5.cell? ⟨X5,3,none⟩=some (.slice D0 tn.args.length d0):=HB5.out.cell (i:=3) rfl
     have y4:W5.cell? ⟨X5,4,none⟩=some (.int .i64 tn.region):=HB5.out.cell (i:=4) rfl
     have y5:W5.cell? ⟨X5,5,none⟩=some (.slice D1 tn.eff.regs.length d1):=HB5.out.cell (i:=5) rfl
     have y6:W5.cell? ⟨X5,6,none⟩=some (.slice D2 tn.eff.vars.length d2):=HB5.out.cell (i:=6) rfl
     have z0:W5.cell? ⟨X7,0,none⟩=some (.int .i64 t.kind):=HB7.out.cell (i:=0) rfl
     have z1:W5.cell? ⟨X7,1,none⟩=some (.int .i64 t.n):=HB7.out.cell (i:=1) rfl
     have z2:W5.cell? ⟨X7,2,none⟩=some (.string t.name):=HB7.out.cell (i:=2) rfl
     have z3:W5.cell? ⟨X7,3,none⟩=some (.slice A0 t.args.length c0):=HB7.out.cell (i:=3) rfl
     have z4:W5.cell? ⟨X7,4,none⟩=some (.int .i64 t.region):=HB7.out.cell (i:=4) rfl
     have z5:W5.cell? ⟨X7,5,none⟩=some (.slice A1 t.eff.regs.length c1):=HB7.out.cell (i:=5) rfl
     have z6:W5.cell? ⟨X7,6,none⟩=some (.slice A2 t.eff.vars.length c2):=HB7.out.cell (i:=6) rfl
     have l5:=HB5.out.lt
     have l7:=HB7.out.lt
     simp only [Rs.isOk]
     obtain ⟨z,hz⟩:∃ z,sameL [tn] [t]=z:=⟨_,rfl⟩
     have HZZ:=Hd.mk hz
     clear e1 hf1 hEr hz
     go_wp2_with fail
     have hfr5:=HP6.out.step.fresh HFR.out
     have hc6:=Blk.new' W5 #[.int .i64 tn.kind, .int .i64 tn.n, .string tn.name, .slice D0 tn.args.length d0, .int .i64 tn.region, .slice D1 tn.eff.regs.length d1, .slice D2 tn.eff.vars.length d2] 43
     have hs6:=(Step.refl (fun _=>False) W5 ρn).alloc (.cells #[.int .i64 tn.kind, .int .i64 tn.n, .string tn.name, .slice D0 tn.args.length d0, .int .i64 tn.region, .slice D1 tn.eff.regs.length d1, .slice D2 tn.eff.vars.length d2] 43)
     have he6:=size_alloc W5 (.cells #[.int .i64 tn.kind, .int .i64 tn.n, .string tn.name, .slice D0 tn.args.length d0, .int .i64 tn.region, .slice D1 tn.eff.regs.length d1, .slice D2 tn.eff.vars.length d2] 43)
     generalize W5.alloc (.cells #[.int .i64 tn.kind, .int .i64 tn.n, .string tn.name, .slice D0 tn.args.length d0, .int .i64 tn.region, .slice D1 tn.eff.regs.length d1, .slice D2 tn.eff.vars.length d2] 43)=W6 at *
     have hc7:=Blk.new' W6 #[.int .i64 t.kind, .int .i64 t.n, .string t.name, .slice A0 t.args.length c0, .int .i64 t.region, .slice A1 t.eff.regs.length c1, .slice A2 t.eff.vars.length c2] 43
     have hs7:=(Step.refl (fun _=>False) W6 ρn).alloc (.cells #[.int .i64 t.kind, .int .i64 t.n, .string t.name, .slice A0 t.args.length c0, .int .i64 t.region, .slice A1 t.eff.regs.length c1, .slice A2 t.eff.vars.length c2] 43)
     rw [he6] at hc7
     generalize W6.alloc (.cells #[.int .i64 t.kind, .int .i64 t.n, .string t.name, .slice A0 t.args.length c0, .int .i64 t.region, .slice A1 t.eff.regs.length c1, .slice A2 t.eff.vars.length c2] 43)=W7 at *
     obtain ⟨nn,ht5⟩:=HT5.out
     have hT0:=TyR.step (HP6.out.step.trans ((hs6.trans hs7).mono (fun _ h=>h.elim):Step CkT _ _ _ _)) _ HT.out
     have o1:=TysR.one (t:=tn) (hs7.blk hc6 (fun _ _ h=>h)) (hfr5 _ (Nat.le_refl _)) (TyR.step (hs6.trans hs7) _ ht5)
     have o2:=TysR.one (t:=t) hc7 (hfr5 _ (by omega)) hT0
     have hcall:=same_any nn nt W7 ρn [tn] [t] _ _ _ _ o1 o2
     rw [HZZ.out] at hcall
     have HCALL:=Hd.mk hcall
     have HS57:=Hd.mk (hs6.trans hs7)
     clear hfr5 hc6 hs6 he6 hc7 hs7 ht5 hT0 o1 o2 hcall
     refine HCALL.out.mono ?_
     rintro e W8 ⟨rfl,hd8⟩
     have HP8:=Hd.mk (HP6.out.after (HS57.out.trans (hd8.step ρn)))
     have HS18:=Hd.mk (HS15.out.trans ((HS57.out.trans (hd8.step ρn)).mono (fun _ h=>h.elim):Step CkT _ _ _ _))
     clear hd8 HCALL
     cases z with
     |false =>
      have hrr:r= .no:=by rw [HER.out,HZZ.out];rfl
      subst hrr
      go_wp2
      go_ret
      exact ⟨ρn,rfl,HP8.out.no rfl⟩
     |true =>
      have hE3:r=valuesC p ty r1.1 (bs.drop (k+1)) t (l.drop (k+1)):=by rw [HER.out,HZZ.out];rfl
      have HE3:=Hd.mk (HR.out.trans hE3)
      clear hE3
      go_wp2
      go_roundw
      case rel=>exact ⟨k+1,r1.1,ρn,by go_num,by omega,HE3.out,HP8.out,HS18.out⟩
      case measure=>simp [intOf];omega
  ·have hke:k=l.length:=by omega
   subst hke
   have hE:=HE.out
   rw [List.drop_length,valuesC] at hE
   have hrr:r= .ok ck:=by rw [←HR.out,hE]
   subst hrr
   clear hE
   go_wp2
   go_ret
   exact ⟨ρk,rfl,HP.out⟩
end Go.Proofs.Ytadffbgbndibpaa
