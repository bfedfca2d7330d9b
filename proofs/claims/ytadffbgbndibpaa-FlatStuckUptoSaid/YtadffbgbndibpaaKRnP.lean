/- RnO, RnP: lemmas and walks of the claim. -/
import Derived.Test.YtadffbgbndibpaaKRnN
import Derived.Test.YtadffbgbndibpaaKGaF
set_option linter.unusedSectionVars false
set_option linter.unusedVariables false
set_option linter.unusedSimpArgs false
set_option maxHeartbeats 16000000
set_option maxRecDepth 100000
namespace Go.Proofs.Ytadffbgbndibpaa
section
open Go Go.RowKit
theorem bindAll_drop {fr q:Fr} {l:List Int} {m:List Vl} {j:Nat} {x:Int} (hx:l[j]? =some x) (h:bindAll fr (l.drop j) (m.drop j)=some q):∃ v f1,m[j]? =some v∧setI fr x v=some f1∧bindAll f1 (l.drop (j+1)) (m.drop (j+1))=some q:=by
 rw [drop_cons hx] at h
 cases hm:m[j]? with
 |none =>
  rw [List.getElem?_eq_none_iff] at hm
  rw [List.drop_eq_nil_of_le hm,bindAll] at h
  cases h
 |some v =>
  rw [drop_cons hm,bindAll,Option.bind_eq_some_iff] at h
  obtain ⟨f1,h1,h2⟩:=h
  exact ⟨v,f1,rfl,h1,h2⟩
theorem BlkP.more {p:Pg} {n N:Nat} {szs:List Int} {fuel:Int} {R:Nat} {w w1:World} {ρ ρ1:Ghost} {B B1:List Nat} {G gc:Nat} {a:Ans} {fr':Fr} {h':Hp} {e:Ending} {w':World} (hs:Step (RunT G) w ρ w1 ρ1) (h:BlkP p n N szs fuel R w1 ρ1 (B++B1) G gc a fr' h' e w'):BlkP p n N szs fuel R w ρ B G gc a fr' h' e w':=by
 obtain ⟨ρ',B',x,s,h1,h2,h3,h4,h5,h6⟩:=h
 rw [List.append_assoc] at h2 h3 h4
 exact ⟨ρ',B1++B',x,s,h1,h2,h3,h4,hs.trans h5,h6⟩
theorem IntsR.elemT {w:World} {ρ:Ghost} {A:Option Addr} {len c:Nat} {l:List Int} (h:IntsR w ρ (.slice A len c) l) {k:Nat} {x:Int} (hk:l[k]? =some x):∃ b o,A=some ⟨b,o,none⟩∧ρ b=none∧w.cell? ⟨b,o+k,none⟩=some (.int .i64 x)∧b<w.heap.size:=by
 obtain ⟨A',c',h1,_,_,_,h5⟩:=h.out
 cases h1
 obtain ⟨b,o,cs,e1,e2,e3,e4,⟨rfl,_⟩,e6⟩:=h5 k x hk
 exact ⟨b,o,e1,e2,by have:=e6 0 _ rfl;rw [Nat.mul_one,Nat.add_zero] at this;exact this,e3⟩
theorem armsR_skip (K:Ctx) (g:Sg) (fr:Fr) (h:Hp):∀ (n:Nat) (l:List Bk),armsR K n g l fr h=armsR K 0 g (l.drop n) fr h
 |0,l=>by rw [List.drop_zero]
 |n+1,[]=>by rw [List.drop_nil,armsR,armsR]
 |n+1,b :: l=>by rw [armsR,List.drop_succ_cons];exact armsR_skip K g fr h n l
theorem armsR_drop {K:Ctx} {g:Sg} {fr:Fr} {h:Hp} {l:List Bk} {k:Nat} {b:Bk} (hk:l[k]? =some b):armsR K 0 g (l.drop k) fr h=if b.code=g.code then (bind0 (wd g.payload) b fr).bind fun fr=>blkR K b fr h else armsR K 0 g (l.drop (k+1)) fr h:=by
 rw [drop_cons hk,armsR]
section
variable (p:Pg) (n N:Nat) (szs:List Int) (fuel:Int) (R:Nat) (w:World) (ρ:Ghost) (h:Hp) (B:List Nat) (hr:RnR p n N szs fuel R w ρ h B) (hfr:Fresh w ρ) (hG:OkG ρ) (K:Ctx) (m:Nat) (hmN:m≤N) (s:St) (sb so:Nat) (hst:StAt w ρ m s sb so) (hQ:∀ b,b ∈ s.blocks→BlkQ p n N szs fuel R K b) (X ac G gc:Nat) (hXG:¬G=X) (fr:Fr) (hfrm:FrR w ρ B G gc fr)
include p n N szs fuel R w ρ h B hr hfr hG K m hmN s sb so hst hQ X ac G gc hXG fr hfrm
section
variable (a:Vl) (l:List Vl) (hF:FrR w ρ B X ac (a :: l))
include a l hF
theorem choose_26 (hop:s.op=26) (k:Nat) (b:Bk) (hk:1-a.word=k) (hb:s.blocks[k]? =some b) (a':Ans) (fr':Fr) (h':Hp) (hres:blkR K b fr h=some (a',fr',h')) :
 Calls Try.prog 47 #[.pointer (some ⟨R,0,none⟩), .pointer (some ⟨sb,so,none⟩), .slice (some ⟨X,0,none⟩) (a :: l).length ac, .slice (some ⟨G,0,none⟩) fr.length gc] w (BlkP p n N szs fuel R w ρ B G gc a' fr' h'):=by
 have HRN:=Hd.mk hr
 have HFR:=Hd.mk hfr
 have HG:=Hd.mk hG
 have HFA:=Hd.mk hF
 have HST:=Hd.mk hst
 have HFM:=Hd.mk hfrm
 have HQ:=Hd.mk hQ
 have HMN:=Hd.mk hmN
 have HXG:=Hd.mk hXG
 have HS1:=Hd.mk ((Step.refl (fun _=>False) w ρ).alloc_tag (.cells #[.int .i64 0, .pointer none] 64) (43,w.heap.size))
 have HB0:Hd (Blk (w.alloc (.cells #[.int .i64 0, .pointer none] 64)) w.heap.size 64 [.int .i64 0, .pointer none]):=⟨Blk.new' _ _ _⟩
 have HT0:Hd (ρ.put w.heap.size (43,w.heap.size) w.heap.size=some (43,w.heap.size)):=⟨Ghost.put_same _ _ _⟩
 have HG1:Hd (OkG (ρ.put w.heap.size (43,w.heap.size))):=⟨hG.frame _⟩
 have HRES:=Hd.mk hres
 have HOP:=Hd.mk hop
 have HK:=Hd.mk hk
 have HB:=Hd.mk hb
 obtain ⟨Aa,ca,Ab,cb,e0,_⟩:=hst.cells
 rw [hop] at e0
 have lS:=hst.lt
 simp only [List.length_cons]
 clear hres hop hk hb
 clear hr hfr hG hF hst hfrm hQ hmN hXG
 go_enter Try.func47,Try.ntmps47
 go_wp2_with fail
 clear e0 lS
 have hGS:Hd (¬G=w.heap.size):=⟨by have:=HFM.out.lt;omega⟩
 have hXS:Hd (¬X=w.heap.size):=⟨by have:=HFA.out.lt;omega⟩
 have HRN1:=Hd.mk (HRN.out.step HS1.out (fun _ _ h=>h))
 have HFR1:=Hd.mk (HS1.out.fresh HFR.out)
 have HFA1:=Hd.mk (HFA.out.step HS1.out (fun h=>h))
 have HFM1:=Hd.mk (HFM.out.step HS1.out (fun h=>h))
 have HST1:=Hd.mk (HST.out.step HS1.out)
 have HSW:=Hd.mk (HS1.out.mono (T':=RunT G) (fun _ h=>h.elim))
 generalize ρ.put w.heap.size (43,w.heap.size)=ρ1 at *
 generalize w.alloc (.cells #[.int .i64 0, .pointer none] 64)=W1 at *
 obtain ⟨Aa,ca,Ab,cb,_,_,_,_,_,e18,_,hbks,_,_,_,_⟩:=HST1.out.cells
 obtain ⟨c0,c1,_,hva⟩:=HFA1.out.cells (i:=0) (v:=a) rfl
 rw [Nat.zero_mul] at c0
 obtain ⟨bb,o,hAb,hat⟩:=hbks.place HB.out
 subst hAb
 have hkl:=(List.getElem?_eq_some_iff.1 HB.out).1
 have hkm:b ∈ s.blocks:=List.mem_of_getElem? HB.out
 have hbl:=hbks.form
 have hlen:s.blocks.length≤9223372036854775807:=by
  obtain ⟨_,_,hv,h2,h3⟩:=hbl
  cases hv
  unfold maxLen at h3
  omega
 have ewr:IntKind.i64.wrap (1-a.word)=(k:Int):=by rw [HK.out];exact IntWalk.i64_in _ (by omega)
 have hkli:(k:Int)<s.blocks.length:=by omega
 have hkz:(0:Int)≤k:=by omega
 have hl2:(0:Int)<(l.length:Int)+1:=by omega
 have nS:ρ1 sb=none:=HST1.out.tag
 have nX:ρ1 X=some (43,X):=HFA1.out.tag
 have lS:=HST1.out.lt
 have lX:=HFA1.out.lt
 have HSc:=Hd.mk ((Step.refl (fun _=>False) W1 ρ1).drew)
 have HCALL2:=Hd.mk (HQ.out b hkm W1.drew ρ1 h B G gc fr bb (o+k*4) m a' fr' h' (HRN1.out.step HSc.out (fun _ _ h=>h)) (HSc.out.fresh HFR1.out) HG1.out (HFM1.out.step HSc.out (fun h=>h)) (hat.step HSc.out) HMN.out HRES.out)
 have HBD:=Hd.mk HB0.out.drew
 have HTD:=Hd.mk HT0.out
 have HSWD:=Hd.mk (HSW.out.drew)
 have HNV:Hd (¬(RunT G (43,X)∨((43,X):Tag)=(43,w.heap.size))):=⟨fun h=>by
  rcases h with (h|h)|h
  ·rcases h with h|h|h <;> cases h
  ·exact HXG.out (congrArg Prod.snd h).symm
  ·exact hXS.out (congrArg Prod.snd h)⟩
 clear hbks hat hkl hkm hbl hlen hva c1
 refine wp_region_held_drew (S:=(fun wv=>∀ a:Addr,a.block<W1.heap.size→(ρ1 a.block=none∨ρ1 a.block=some (43,X))→wv.cell? a=W1.cell? a)) (by kernel_rfl) (keepV_of HSc.out (fun h=>h)) (fun hHeld=>?_)
 refine tkP 0 ?_
 refine tkP 1 ?_
 refine tkP 2 ?_
 refine tkP 3 ?_
 refine tkP 4 ?_
 refine tkP 5 ?_
 refine tkP 6 ?_
 refine tkP 7 ?_
 refine tkP 8 ?_
 refine tkP 9 ?_
 refine tkP 10 ?_
 refine tkP 11 ?_
 refine tkR 12 (fun K hK=>?_)
 go_simp
 go_at_call 30
 refine HCALL2.out.mono ?_
 rintro e Wn ⟨ρn,Bn,xn,sn,rfl,han,hrn,hfn,hsn,hgn⟩
 have HA3:=Hd.mk han
 have HR3:=Hd.mk hrn
 have HF3:=Hd.mk hfn
 have HSC:=Hd.mk hsn
 have HG3:=Hd.mk hgn
 have HSc:=Hd.mk ((HSc.out.mono (T':=fun t=>RunT G t∨t=(43,w.heap.size)) (fun _ h=>h.elim)).trans (hsn.mono (fun t h=>Or.inl h)))
 have hnt:¬RunT G (43,w.heap.size):=fun h=>by
  rcases h with h|h
  ·rcases h with h|h|h <;> cases h
  ·exact hGS.out (congrArg Prod.snd h).symm
 have hbn:=hsn.blk' HBD.out HTD.out hnt
 have HTN:=Hd.mk (hsn.tag HBD.out.lt HTD.out)
 have HBN:=Hd.mk hbn
 have q0:Wn.cell? ⟨w.heap.size,0,none⟩=some (.int .i64 0):=hbn.cell (i:=0) rfl
 have q1:Wn.cell? ⟨w.heap.size,1,none⟩=some (.pointer none):=hbn.cell (i:=1) rfl
 have g0:=hbn.free 0
 have g1:=hbn.free 1
 have ln:=hbn.lt
 obtain ⟨u0,u1,rfl⟩:=han.two
 clear han hrn hfn hsn hgn hbn hnt HCALL2
 go_wp2_with fail
 try clear hHeld
 refine tkK hK (by first|exact keepV_of HSc.out HNV.out|exact keepV_of ((HSc.out.setCell (a:=⟨w.heap.size,0,none⟩) HTN.out (Or.inr rfl) _).setCell (a:=⟨w.heap.size,1,none⟩) HTN.out (Or.inr rfl) _) HNV.out) (fun hHeld=>?_)
 clear hK K
 refine tkP 13 ?_
 refine tkP 14 ?_
 refine tkR 15 (fun K hK=>?_)
 go_simp
 try clear hHeld
 refine tkK hK (by first|exact keepV_of HSc.out HNV.out|exact keepV_of ((HSc.out.setCell (a:=⟨w.heap.size,0,none⟩) HTN.out (Or.inr rfl) _).setCell (a:=⟨w.heap.size,1,none⟩) HTN.out (Or.inr rfl) _) HNV.out) (fun hHeld=>?_)
 clear hK K
 refine tkP 16 ?_
 refine wpAnyH_done (by kernel_rfl) ?_ _
 try clear hHeld
 go_wp2
 refine bodyPost_ret (results_cell2 rfl _ _ w.heap.size [.int .i64 u0, .pointer u1] rfl ?_ Try.underlying64 rfl) rfl ?_
 ·exact (HBN.out.setCell 0 _).setCell 1 _
 ·exact BlkP.fin (HSWD.out.trans HSC.out) (Nat.le_refl _) HTN.out hGS.out HR3.out HF3.out HA3.out HG3.out
theorem choose_27n (hop:s.op=27) (hcn:a.cell=none) (k:Nat) (b:Bk) (hk:a.word=k) (hb:s.blocks[k]? =some b) (a':Ans) (fr':Fr) (h':Hp) (hres:blkR K b fr h=some (a',fr',h')) :
 Calls Try.prog 47 #[.pointer (some ⟨R,0,none⟩), .pointer (some ⟨sb,so,none⟩), .slice (some ⟨X,0,none⟩) (a :: l).length ac, .slice (some ⟨G,0,none⟩) fr.length gc] w (BlkP p n N szs fuel R w ρ B G gc a' fr' h'):=by
 have HRN:=Hd.mk hr
 have HFR:=Hd.mk hfr
 have HG:=Hd.mk hG
 have HFA:=Hd.mk hF
 have HST:=Hd.mk hst
 have HFM:=Hd.mk hfrm
 have HQ:=Hd.mk hQ
 have HMN:=Hd.mk hmN
 have HXG:=Hd.mk hXG
 have HS1:=Hd.mk ((Step.refl (fun _=>False) w ρ).alloc_tag (.cells #[.int .i64 0, .pointer none] 64) (43,w.heap.size))
 have HB0:Hd (Blk (w.alloc (.cells #[.int .i64 0, .pointer none] 64)) w.heap.size 64 [.int .i64 0, .pointer none]):=⟨Blk.new' _ _ _⟩
 have HT0:Hd (ρ.put w.heap.size (43,w.heap.size) w.heap.size=some (43,w.heap.size)):=⟨Ghost.put_same _ _ _⟩
 have HG1:Hd (OkG (ρ.put w.heap.size (43,w.heap.size))):=⟨hG.frame _⟩
 have HRES:=Hd.mk hres
 have HOP:=Hd.mk hop
 have HK:=Hd.mk hk
 have HB:=Hd.mk hb
 have HCN:Hd (ptrV B a=none):=⟨by unfold ptrV;rw [hcn];rfl⟩
 obtain ⟨Aa,ca,Ab,cb,e0,_⟩:=hst.cells
 rw [hop] at e0
 have lS:=hst.lt
 have lX:=hF.lt
 obtain ⟨_,c1,_,_⟩:=hF.cells (i:=0) (v:=a) rfl
 rw [Nat.zero_mul,Nat.zero_add,HCN.out] at c1
 simp only [List.length_cons]
 have hl2:(0:Int)<(l.length:Int)+1:=by omega
 clear hres hop hk hb hcn
 clear hr hfr hG hF hst hfrm hQ hmN hXG
 go_enter Try.func47,Try.ntmps47
 go_wp2_with fail
 clear e0 lS lX c1
 have hGS:Hd (¬G=w.heap.size):=⟨by have:=HFM.out.lt;omega⟩
 have hXS:Hd (¬X=w.heap.size):=⟨by have:=HFA.out.lt;omega⟩
 have HRN1:=Hd.mk (HRN.out.step HS1.out (fun _ _ h=>h))
 have HFR1:=Hd.mk (HS1.out.fresh HFR.out)
 have HFA1:=Hd.mk (HFA.out.step HS1.out (fun h=>h))
 have HFM1:=Hd.mk (HFM.out.step HS1.out (fun h=>h))
 have HST1:=Hd.mk (HST.out.step HS1.out)
 have HSW:=Hd.mk (HS1.out.mono (T':=RunT G) (fun _ h=>h.elim))
 generalize ρ.put w.heap.size (43,w.heap.size)=ρ1 at *
 generalize w.alloc (.cells #[.int .i64 0, .pointer none] 64)=W1 at *
 obtain ⟨Aa,ca,Ab,cb,_,_,_,_,_,e18,_,hbks,_,_,_,_⟩:=HST1.out.cells
 obtain ⟨c0,_,_,hva⟩:=HFA1.out.cells (i:=0) (v:=a) rfl
 rw [Nat.zero_mul,HK.out] at c0
 obtain ⟨bb,o,hAb,hat⟩:=hbks.place HB.out
 subst hAb
 have hkl:=(List.getElem?_eq_some_iff.1 HB.out).1
 have hkm:b ∈ s.blocks:=List.mem_of_getElem? HB.out
 have hkli:(k:Int)<s.blocks.length:=by omega
 have hkz:(0:Int)≤k:=by omega
 have nS:ρ1 sb=none:=HST1.out.tag
 have nX:ρ1 X=some (43,X):=HFA1.out.tag
 have lS:=HST1.out.lt
 have lX:=HFA1.out.lt
 have HSc:=Hd.mk ((Step.refl (fun _=>False) W1 ρ1).drew)
 have HCALL2:=Hd.mk (HQ.out b hkm W1.drew ρ1 h B G gc fr bb (o+k*4) m a' fr' h' (HRN1.out.step HSc.out (fun _ _ h=>h)) (HSc.out.fresh HFR1.out) HG1.out (HFM1.out.step HSc.out (fun h=>h)) (hat.step HSc.out) HMN.out HRES.out)
 have HBD:=Hd.mk HB0.out.drew
 have HTD:=Hd.mk HT0.out
 have HSWD:=Hd.mk (HSW.out.drew)
 have HNV:Hd (¬(RunT G (43,X)∨((43,X):Tag)=(43,w.heap.size))):=⟨fun h=>by
  rcases h with (h|h)|h
  ·rcases h with h|h|h <;> cases h
  ·exact HXG.out (congrArg Prod.snd h).symm
  ·exact hXS.out (congrArg Prod.snd h)⟩
 clear hbks hat hkl hkm hva
 refine wp_region_held_drew (S:=(fun wv=>∀ a:Addr,a.block<W1.heap.size→(ρ1 a.block=none∨ρ1 a.block=some (43,X))→wv.cell? a=W1.cell? a)) (by kernel_rfl) (keepV_of HSc.out (fun h=>h)) (fun hHeld=>?_)
 refine tkP 0 ?_
 refine tkP 1 ?_
 refine tkP 2 ?_
 refine tkP 3 ?_
 refine tkP 4 ?_
 refine tkP 5 ?_
 refine tkP 6 ?_
 refine tkP 7 ?_
 refine tkP 8 ?_
 refine tkP 9 ?_
 refine tkP 10 ?_
 refine tkR 11 (fun K hK=>?_)
 go_simp
 go_at_call 30
 refine HCALL2.out.mono ?_
 rintro e Wn ⟨ρn,Bn,xn,sn,rfl,han,hrn,hfn,hsn,hgn⟩
 have HA3:=Hd.mk han
 have HR3:=Hd.mk hrn
 have HF3:=Hd.mk hfn
 have HSC:=Hd.mk hsn
 have HG3:=Hd.mk hgn
 have HSc:=Hd.mk ((HSc.out.mono (T':=fun t=>RunT G t∨t=(43,w.heap.size)) (fun _ h=>h.elim)).trans (hsn.mono (fun t h=>Or.inl h)))
 have hnt:¬RunT G (43,w.heap.size):=fun h=>by
  rcases h with h|h
  ·rcases h with h|h|h <;> cases h
  ·exact hGS.out (congrArg Prod.snd h).symm
 have hbn:=hsn.blk' HBD.out HTD.out hnt
 have HTN:=Hd.mk (hsn.tag HBD.out.lt HTD.out)
 have HBN:=Hd.mk hbn
 have q0:Wn.cell? ⟨w.heap.size,0,none⟩=some (.int .i64 0):=hbn.cell (i:=0) rfl
 have q1:Wn.cell? ⟨w.heap.size,1,none⟩=some (.pointer none):=hbn.cell (i:=1) rfl
 have g0:=hbn.free 0
 have g1:=hbn.free 1
 have ln:=hbn.lt
 obtain ⟨u0,u1,rfl⟩:=han.two
 clear han hrn hfn hsn hgn hbn hnt HCALL2
 go_wp2_with fail
 try clear hHeld
 refine tkK hK (by first|exact keepV_of HSc.out HNV.out|exact keepV_of ((HSc.out.setCell (a:=⟨w.heap.size,0,none⟩) HTN.out (Or.inr rfl) _).setCell (a:=⟨w.heap.size,1,none⟩) HTN.out (Or.inr rfl) _) HNV.out) (fun hHeld=>?_)
 clear hK K
 refine tkP 12 ?_
 refine tkP 13 ?_
 refine tkR 14 (fun K hK=>?_)
 go_simp
 try clear hHeld
 refine tkK hK (by first|exact keepV_of HSc.out HNV.out|exact keepV_of ((HSc.out.setCell (a:=⟨w.heap.size,0,none⟩) HTN.out (Or.inr rfl) _).setCell (a:=⟨w.heap.size,1,none⟩) HTN.out (Or.inr rfl) _) HNV.out) (fun hHeld=>?_)
 clear hK K
 refine tkP 15 ?_
 refine wpAnyH_done (by kernel_rfl) ?_ _
 try clear hHeld
 go_wp2
 refine bodyPost_ret (results_cell2 rfl _ _ w.heap.size [.int .i64 u0, .pointer u1] rfl ?_ Try.underlying64 rfl) rfl ?_
 ·exact (HBN.out.setCell 0 _).setCell 1 _
 ·exact BlkP.fin (HSWD.out.trans HSC.out) (Nat.le_refl _) HTN.out hGS.out HR3.out HF3.out HA3.out HG3.out
theorem choose_27c (hop:s.op=27) (kk:Nat) (c:Cl) (hv:h.of a=some (kk,c)) (k:Nat) (b:Bk) (hk:c.code=k) (hb:s.blocks[k]? =some b) (fr1:Fr) (hbi:bindAll fr b.bind c.parts=some fr1) (a':Ans) (fr':Fr) (h':Hp) (hres:blkR K b fr1 h=some (a',fr',h')) :
 Calls Try.prog 47 #[.pointer (some ⟨R,0,none⟩), .pointer (some ⟨sb,so,none⟩), .slice (some ⟨X,0,none⟩) (a :: l).length ac, .slice (some ⟨G,0,none⟩) fr.length gc] w (BlkP p n N szs fuel R w ρ B G gc a' fr' h'):=by
 have HRN:=Hd.mk hr
 have HFR:=Hd.mk hfr
 have HG:=Hd.mk hG
 have HFA:=Hd.mk hF
 have HST:=Hd.mk hst
 have HFM:=Hd.mk hfrm
 have HQ:=Hd.mk hQ
 have HMN:=Hd.mk hmN
 have HXG:=Hd.mk hXG
 have HS1:=Hd.mk ((Step.refl (fun _=>False) w ρ).alloc_tag (.cells #[.int .i64 0, .pointer none] 64) (43,w.heap.size))
 have HB0:Hd (Blk (w.alloc (.cells #[.int .i64 0, .pointer none] 64)) w.heap.size 64 [.int .i64 0, .pointer none]):=⟨Blk.new' _ _ _⟩
 have HT0:Hd (ρ.put w.heap.size (43,w.heap.size) w.heap.size=some (43,w.heap.size)):=⟨Ghost.put_same _ _ _⟩
 have HG1:Hd (OkG (ρ.put w.heap.size (43,w.heap.size))):=⟨hG.frame _⟩
 have HRES:=Hd.mk hres
 have HOP:=Hd.mk hop
 have HK:=Hd.mk hk
 have HB:=Hd.mk hb
 have HV:=Hd.mk hv
 have HBI:=Hd.mk hbi
 obtain ⟨Aa,ca,Ab,cb,e0,_⟩:=hst.cells
 rw [hop] at e0
 have lS:=hst.lt
 have lX:=hF.lt
 obtain ⟨_,c1,_,_⟩:=hF.cells (i:=0) (v:=a) rfl
 rw [Nat.zero_mul,Nat.zero_add] at c1
 obtain ⟨b0,_,_,_,hpt,_⟩:=hr.at hv
 rw [hpt] at c1
 have HPT:=Hd.mk hpt
 simp only [List.length_cons]
 have hl2:(0:Int)<(l.length:Int)+1:=by omega
 clear hres hop hk hb hv hbi hpt
 clear hr hfr hG hF hst hfrm hQ hmN hXG
 go_enter Try.func47,Try.ntmps47
 go_wp2_with fail
 clear e0 lS lX c1
 have hGS:Hd (¬G=w.heap.size):=⟨by have:=HFM.out.lt;omega⟩
 have hXS:Hd (¬X=w.heap.size):=⟨by have:=HFA.out.lt;omega⟩
 have HRN1:=Hd.mk (HRN.out.step HS1.out (fun _ _ h=>h))
 have HFR1:=Hd.mk (HS1.out.fresh HFR.out)
 have HFA1:=Hd.mk (HFA.out.step HS1.out (fun h=>h))
 have HFM1:=Hd.mk (HFM.out.step HS1.out (fun h=>h))
 have HST1:=Hd.mk (HST.out.step HS1.out)
 have HSW:=Hd.mk (HS1.out.mono (T':=RunT G) (fun _ h=>h.elim))
 generalize ρ.put w.heap.size (43,w.heap.size)=ρ1 at *
 generalize w.alloc (.cells #[.int .i64 0, .pointer none] 64)=W1 at *
 obtain ⟨Aa,ca,Ab,cb,_,_,_,_,_,e18,_,hbks,_,_,_,_⟩:=HST1.out.cells
 obtain ⟨bb,o,hAb,hat⟩:=hbks.place HB.out
 subst hAb
 have HAT:=Hd.mk hat
 obtain ⟨b0',A,cp,ba,hpt2,_,_,lb0,hcr,d0,_⟩:=HRN1.out.at HV.out
 rw [HPT.out] at hpt2
 cases hpt2
 rw [HK.out] at d0
 have hkl:=(List.getElem?_eq_some_iff.1 HB.out).1
 have hkli:(k:Int)<s.blocks.length:=by omega
 have hkz:(0:Int)≤k:=by omega
 have lS:=HST1.out.lt
 clear hbks hat hkl hcr
 go_quiet (skip)
 have hsq:=(Step.refl (fun _=>False) W1 ρ1).drewN nq
 have HRN2:=Hd.mk (HRN1.out.step hsq (fun _ _ h=>h))
 have HFM2:=Hd.mk (HFM1.out.step hsq (fun h=>h))
 have HAT2:=Hd.mk (HAT.out.step hsq)
 have HS2:=Hd.mk (HSW.out.trans (hsq.mono (fun _ h=>h.elim)))
 have HB2:=Hd.mk (hsq.blk' HB0.out HT0.out (fun h=>h))
 have HFR2:=Hd.mk (hsq.fresh HFR1.out)
 clear hsq e18 d0 lb0 lS HRN1 HFM1 HFR1
 generalize World.drewN _ nq=W2 at *
 obtain ⟨m',B1,k1,B2,k2,_,_,f1,_,_,hints,_,_,_⟩:=HAT2.out.cells
 have HINT:=Hd.mk hints
 have lbb:=HAT2.out.lt
 have hbl:b.bind.length≤9223372036854775807:=by
  obtain ⟨_,_,hv,h2,h3⟩:=SlR.form hints
  cases hv
  unfold maxLen at h3
  omega
 clear hints
 go_wp2_with fail
 clear f1 lbb
 go_loopw [75] (fun vj wr=>∃ (j:Nat) (frj:Fr),vj= .int .i64 j∧j≤b.bind.length∧bindAll frj (b.bind.drop j) (c.parts.drop j)=some fr1∧frj.length=fr.length∧FrR wr ρ1 B G gc frj∧Step (· =((43,G):Tag)) W2 ρ1 wr ρ1) (fun v _=>b.bind.length-(intOf v).toNat)
 case atStart=>exact ⟨0,fr,by simp,by omega,by simpa using HBI.out,rfl,HFM2.out,Step.refl _ _ _⟩
 case round =>
  obtain ⟨j,frj,rfl,hj,hbj,hlj,hfj,hsj⟩:=hrel
  have HBJ:=Hd.mk hbj
  have HLJ:=Hd.mk hlj
  have HFJ:=Hd.mk hfj
  have HSJ:=Hd.mk hsj
  have hrnj:=HRN2.out.step hsj (fun t h1 h2=>by rw [h2] at h1;rcases h1 with h1|h1|h1 <;> cases h1)
  have HRNJ:=Hd.mk hrnj
  clear hbj hlj hfj hsj hrnj
  by_cases hlt:j<b.bind.length
  ·have hlti:(j:Int)<b.bind.length:=by omega
   have hjz:(0:Int)≤j:=by omega
   have hxx:=List.getElem?_eq_getElem hlt
   obtain ⟨v,f1,hpv,hse,hbn⟩:=bindAll_drop hxx HBJ.out
   obtain ⟨ii,hii,hil,hfe⟩:=setI_get hse
   obtain ⟨bi,oi,hBi,_,f3,lbi⟩:=(HINT.out.step HSJ.out).elem hxx
   subst hBi
   rw [hii] at f3
   obtain ⟨b0',A',cp',ba',hpt2,_,_,lb0,hcr,_,d1,_,hO,_⟩:=HRNJ.out.at HV.out
   rw [HPT.out] at hpt2
   cases hpt2
   have hjp:=(List.getElem?_eq_some_iff.1 hpv).1
   obtain ⟨g,c',hAg,_,_,_,hgc,_,lg⟩:=hO.some (by omega)
   cases hAg
   have q0:=(hgc (j*2) (by omega)).trans (flatV_get B hpv).1
   have q1:=(hgc (j*2+1) (by omega)).trans (flatV_get B hpv).2
   have hjpi:(j:Int)<c.parts.length:=by omega
   have hvo:=hcr.ok v (List.mem_of_getElem? hpv)
   obtain ⟨g0,g1,gf,_⟩:=HFJ.out.cells (List.getElem?_eq_getElem hil)
   generalize frj[ii]=old at g0 g1
   have lG:=HFJ.out.lt
   have gf0:=gf (ii*2)
   have gf1:=gf (ii*2+1)
   have hfs:=HFJ.out.set hil hvo
   rw [←hfe] at hfs
   have HFS:=Hd.mk hfs
   have HBN:=Hd.mk hbn
   have HFE:=Hd.mk hfe
   have hilf:(ii:Int)<fr.length:=by have:=HLJ.out;omega
   have hiz:(0:Int)≤ii:=by omega
   clear hpv hse hbn hii hfe hcr hO hgc hjp hvo gf hfs hxx
   go_wp2
   go_roundw
   case rel=>exact ⟨j+1,f1,by go_num,by omega,HBN.out,by rw [HFE.out,List.length_set];exact HLJ.out,HFS.out.1,HSJ.out.trans HFS.out.2⟩
   case measure=>simp [intOf];omega
  ·have hje:j=b.bind.length:=by omega
   have hfe:frj=fr1:=by
    have h1:=HBJ.out
    rw [hje,List.drop_length,bindAll] at h1
    cases h1
    rfl
   subst hfe
   have hbm:b ∈ s.blocks:=List.mem_of_getElem? HB.out
   have hcall:=HQ.out b hbm wr ρ1 h B G gc frj bb (o+k*4) m a' fr' h' HRNJ.out (HSJ.out.fresh HFR2.out) HG1.out HFJ.out (HAT2.out.step HSJ.out) HMN.out HRES.out
   rw [HLJ.out] at hcall
   have HCALL2:=Hd.mk hcall
   have HBD:=Hd.mk (HSJ.out.blk' HB2.out HT0.out (fun h=>hGS.out (congrArg Prod.snd h).symm))
   have HTD:=HT0
   have HSWD:=Hd.mk (HS2.out.trans (HSJ.out.mono (T':=RunT G) (fun t h=>Or.inr h)))
   have HSc:=Hd.mk (Step.refl (fun _=>False) wr ρ1)
   have hltI:¬((j:Int)<b.bind.length):=by omega
   clear hje hbm hcall
   go_wp2_with fail
   refine HCALL2.out.mono ?_
   rintro e Wn ⟨ρn,Bn,xn,sn,rfl,han,hrn,hfn,hsn,hgn⟩
   have HA3:=Hd.mk han
   have HR3:=Hd.mk hrn
   have HF3:=Hd.mk hfn
   have HSC:=Hd.mk hsn
   have HG3:=Hd.mk hgn
   have HSc:=Hd.mk ((HSc.out.mono (T':=fun t=>RunT G t∨t=(43,w.heap.size)) (fun _ h=>h.elim)).trans (hsn.mono (fun t h=>Or.inl h)))
   have hnt:¬RunT G (43,w.heap.size):=fun h=>by
    rcases h with h|h
    ·rcases h with h|h|h <;> cases h
    ·exact hGS.out (congrArg Prod.snd h).symm
   have hbn:=hsn.blk' HBD.out HTD.out hnt
   have HTN:=Hd.mk (hsn.tag HBD.out.lt HTD.out)
   have HBN:=Hd.mk hbn
   have q0:Wn.cell? ⟨w.heap.size,0,none⟩=some (.int .i64 0):=hbn.cell (i:=0) rfl
   have q1:Wn.cell? ⟨w.heap.size,1,none⟩=some (.pointer none):=hbn.cell (i:=1) rfl
   have g0:=hbn.free 0
   have g1:=hbn.free 1
   have ln:=hbn.lt
   obtain ⟨u0,u1,rfl⟩:=han.two
   clear han hrn hfn hsn hgn hbn hnt HCALL2
   go_wp2
   refine bodyPost_ret (results_cell2 rfl _ _ w.heap.size [.int .i64 u0, .pointer u1] rfl ?_ Try.underlying64 rfl) rfl ?_
   ·exact (HBN.out.setCell 0 _).setCell 1 _
   ·exact BlkP.fin (HSWD.out.trans HSC.out) (Nat.le_refl _) HTN.out hGS.out HR3.out HF3.out HA3.out HG3.out
end
section
variable (b0:Bk) (hb0:s.blocks[0]? =some b0) (f1:Fr) (h1:Hp) (ag:List Vl) (hF:FrR w ρ B X ac ag) (hop:s.op=17)
include b0 hb0 f1 h1 ag hF hop
theorem choose_17ok (b1:Bk) (hb1:s.blocks[1]? =some b1) (v:Vl) (x:Int) (bs:List Int) (hbd:b1.bind=x :: bs) (f2:Fr) (hse:setI f1 x v=some f2) (hres0:blkR K b0 fr h=some (.ok v,f1,h1)) (a':Ans) (fr':Fr) (h':Hp) (hres:blkR K b1 f2 h1=some (a',fr',h')) :
 Calls Try.prog 47 #[.pointer (some ⟨R,0,none⟩), .pointer (some ⟨sb,so,none⟩), .slice (some ⟨X,0,none⟩) ag.length ac, .slice (some ⟨G,0,none⟩) fr.length gc] w (BlkP p n N szs fuel R w ρ B G gc a' fr' h'):=by
 have HRN:=Hd.mk hr
 have HFR:=Hd.mk hfr
 have HG:=Hd.mk hG
 have HFA:=Hd.mk hF
 have HST:=Hd.mk hst
 have HFM:=Hd.mk hfrm
 have HQ:=Hd.mk hQ
 have HMN:=Hd.mk hmN
 have HXG:=Hd.mk hXG
 have HS1:=Hd.mk ((Step.refl (fun _=>False) w ρ).alloc_tag (.cells #[.int .i64 0, .pointer none] 64) (43,w.heap.size))
 have HB0:Hd (Blk (w.alloc (.cells #[.int .i64 0, .pointer none] 64)) w.heap.size 64 [.int .i64 0, .pointer none]):=⟨Blk.new' _ _ _⟩
 have HT0:Hd (ρ.put w.heap.size (43,w.heap.size) w.heap.size=some (43,w.heap.size)):=⟨Ghost.put_same _ _ _⟩
 have HG1:Hd (OkG (ρ.put w.heap.size (43,w.heap.size))):=⟨hG.frame _⟩
 have HRES:=Hd.mk hres
 have HRES0:=Hd.mk hres0
 have HOP:=Hd.mk hop
 have HB0b:=Hd.mk hb0
 have HB1b:=Hd.mk hb1
 have HBD:=Hd.mk hbd
 have HSE:=Hd.mk hse
 obtain ⟨_,_,_,_,e0, -⟩:=hst.cells
 rw [hop] at e0
 have lS:=hst.lt
 clear hres hres0 hop hb0 hb1 hbd hse
 clear hr hfr hG hF hst hfrm hQ hmN hXG
 have hGS:Hd (¬G=w.heap.size):=⟨by have:=HFM.out.lt;omega⟩
 have hXS:Hd (¬X=w.heap.size):=⟨by have:=HFA.out.lt;omega⟩
 have HRN1:=Hd.mk (HRN.out.step HS1.out (fun _ _ h=>h))
 have HFR1:=Hd.mk (HS1.out.fresh HFR.out)
 have HFA1:=Hd.mk (HFA.out.step HS1.out (fun h=>h))
 have HFM1:=Hd.mk (HFM.out.step HS1.out (fun h=>h))
 have HST1:=Hd.mk (HST.out.step HS1.out)
 have HSW:=Hd.mk (HS1.out.mono (T':=RunT G) (fun _ h=>h.elim))
 obtain ⟨_,_,Ab',cb',_,_,_,_,_,e18,_,hbks,_,_,_,_⟩:=HST.out.cells
 obtain ⟨bb,o,hAb,hat⟩:=hbks.place HB0b.out
 subst hAb
 rw [Nat.zero_mul,Nat.add_zero] at hat
 have hkl:=(List.getElem?_eq_some_iff.1 HB0b.out).1
 have hkm:b0 ∈ s.blocks:=List.mem_of_getElem? HB0b.out
 have hkli:(0:Int)<s.blocks.length:=by omega
 have hklN:0<s.blocks.length:=hkl
 have HBKS:=Hd.mk hbks
 have HCALL2:=Hd.mk (HQ.out b0 hkm (w.alloc (.cells #[.int .i64 0, .pointer none] 64)) (ρ.put w.heap.size (43,w.heap.size)) h B G gc fr bb o m _ f1 h1 HRN1.out HFR1.out HG1.out HFM1.out (hat.step HS1.out) HMN.out HRES0.out)
 clear hbks hat hkl hkm
 go_enter Try.func47,Try.ntmps47
 go_wp2_with fail
 refine HCALL2.out.mono ?_
 rintro e W2 ⟨ρ2,B1,x2,s2,rfl,ha2,hr2,hf2,hs2,hg2⟩
 clear e0 e18 lS hkli hklN
 have hlf:f1.length=fr.length:=blkR_len K b0 HRES0.out
 have hnt:¬RunT G (43,w.heap.size):=fun h=>by
  rcases h with h|h
  ·rcases h with h|h|h <;> cases h
  ·exact hGS.out (congrArg Prod.snd h).symm
 have hbn:=hs2.blk' HB0.out HT0.out hnt
 have HT2:=Hd.mk (hs2.tag HB0.out.lt HT0.out)
 have HB2:=Hd.mk hbn
 have HR2:=Hd.mk hr2
 have HF2:=Hd.mk hf2
 have HS2:=Hd.mk (HSW.out.trans hs2)
 have HG2:=Hd.mk hg2
 have HST2:=Hd.mk (HST1.out.step hs2)
 have HFR2:=Hd.mk (hs2.fresh HFR1.out)
 have HLF:=Hd.mk hlf
 obtain ⟨rfl,rfl,hvo⟩:=ha2
 have HVO:=Hd.mk hvo
 clear hr2 hf2 hs2 hg2 hlf hnt hbn hvo HCALL2
 have hev:(valV (B++B1) v).toArray= #[.int .i64 v.word, .pointer (ptrV (B++B1) v)]:=rfl
 rw [hev]
 clear hev
 have HT14:=Hd.mk ((Step.refl (fun _=>False) W2 ρ2).alloc (.cells #[.int .i64 v.word, .pointer (ptrV (B++B1) v)] 64))
 have HB14:Hd (Blk (W2.alloc (.cells #[.int .i64 v.word, .pointer (ptrV (B++B1) v)] 64)) W2.heap.size 64 [.int .i64 v.word, .pointer (ptrV (B++B1) v)]):=⟨Blk.new' _ _ _⟩
 go_wp2_with fail
 have HR3w:=Hd.mk (HR2.out.step HT14.out (fun _ _ h=>h))
 have HF3w:=Hd.mk (HF2.out.step HT14.out (fun h=>h))
 have HS3w:=Hd.mk (HS2.out.trans (HT14.out.mono (fun _ h=>h.elim)))
 have HST3:=Hd.mk (HST2.out.step HT14.out)
 have HFR3:=Hd.mk (HT14.out.fresh HFR2.out)
 have HB3w:=Hd.mk (HT14.out.blk' HB2.out HT2.out (fun h=>h))
 generalize hX14:W2.heap.size=X14 at *
 have hne14:¬X14=G:=by have:=HF2.out.lt;omega
 generalize W2.alloc (.cells #[.int .i64 v.word, .pointer (ptrV (B++B1) v)] 64)=W3 at *
 have p0:W3.cell? ⟨X14,0,none⟩=some (.int .i64 v.word):=HB14.out.cell (i:=0) rfl
 have p1:W3.cell? ⟨X14,1,none⟩=some (.pointer (ptrV (B++B1) v)):=HB14.out.cell (i:=1) rfl
 have l14:=HB14.out.lt
 obtain ⟨_,_,_,_,_,_,_,_,_,e18,_,hbks,_,_,_,_⟩:=HST3.out.cells
 obtain ⟨bb',o',hAb,hat⟩:=hbks.place HB1b.out
 subst hAb
 rw [Nat.one_mul] at hat
 obtain ⟨m',D1,k1,D2,k2,_,_,f1c,_,_,hints,_,_,_⟩:=hat.cells
 obtain ⟨bi,oi,hBi,_,f3,lbi⟩:=hints.elem (k:=0) (x:=x) (by rw [HBD.out];rfl)
 subst hBi
 obtain ⟨ii,hii,hil,hfe⟩:=setI_get HSE.out
 rw [hii,Nat.add_zero] at f3
 have hbl:(0:Int)<b1.bind.length:=by rw [HBD.out];simp only [List.length_cons];omega
 have hblN:0<b1.bind.length:=by omega
 have hkl1:=(List.getElem?_eq_some_iff.1 HB1b.out).1
 have hkli:(1:Int)<s.blocks.length:=by omega
 have hkliN:1<s.blocks.length:=hkl1
 have lS:=HST3.out.lt
 have lbb:=hat.lt
 obtain ⟨g0,g1,gf,_⟩:=HF3w.out.cells (List.getElem?_eq_getElem hil)
 generalize f1[ii]=old at g0 g1
 have lG:=HF3w.out.lt
 have gf0:=gf (ii*2)
 have gf1:=gf (ii*2+1)
 have hilf:(ii:Int)<fr.length:=by have:=HLF.out;omega
 have hiz:(0:Int)≤ii:=by omega
 have nG:=HF3w.out.tag
 have nSb:=HST3.out.tag
 have hneS:¬sb=G:=fun h=>by rw [h,nG] at nSb;cases nSb
 have nbb:=hat.tag
 have hneB:¬bb'=G:=fun h=>by rw [h,nG] at nbb;cases nbb
 have hneSS:¬w.heap.size=G:=fun h=>hGS.out h.symm
 have HAT:=Hd.mk hat
 have HFE:=Hd.mk (And.intro hfe hil)
 clear hbks hat hints hii hfe gf nSb nbb nG hkl1 hX14
 go_still_tail 12,(by kernel_rfl)
 change wpList _ _ _ _ _ W3.drew
 have hsd:=(Step.refl (fun _=>False) W3 ρ2).drew
 have HRN5:=Hd.mk (HR3w.out.step hsd (fun _ _ h=>h))
 have HF5:=Hd.mk (HF3w.out.step hsd (fun h=>h))
 have HS5:=Hd.mk (HS3w.out.drew)
 have HB5:=Hd.mk (HB3w.out.drew)
 have HAT5:=Hd.mk (HAT.out.step hsd)
 have HFR5:=Hd.mk (hsd.fresh HFR3.out)
 have E18:W3.drew.cell? ⟨sb,so+18,none⟩=_:=e18
 have G0:W3.drew.cell? ⟨G,ii*2,none⟩=some (.int .i64 old.word):=g0
 have G1:W3.drew.cell? ⟨G,ii*2+1,none⟩=some (.pointer (ptrV (B++B1) old)):=g1
 have GF0:W3.drew.frozen? ⟨G,ii*2,none⟩=false:=gf0
 have GF1:W3.drew.frozen? ⟨G,ii*2+1,none⟩=false:=gf1
 have LS:sb<W3.drew.heap.size:=lS
 have LG:G<W3.drew.heap.size:=lG
 clear hsd e18 g0 g1 gf0 gf1 lS lG p0 p1 l14 f1c f3 lbi lbb hbl hblN HR3w HF3w HS3w HB3w HAT HFR3 HST3
 generalize W3.drew=W5 at *
 have hfs:=HF5.out.set (i:=ii) (v:=v) HFE.out.2 HVO.out
 rw [←HFE.out.1] at hfs
 have HFS:=Hd.mk hfs
 generalize hW6:(W5.setCell ⟨G,ii*2,none⟩ (.int .i64 v.word)).setCell ⟨G,ii*2+1,none⟩ (.pointer (ptrV (B++B1) v))=W6 at HFS
 have hs56:=HFS.out.2
 have HRN6:=Hd.mk (HRN5.out.step hs56 (fun t h1 h2=>by rw [h2] at h1;rcases h1 with h1|h1|h1 <;> cases h1))
 have HAT6:=Hd.mk (HAT5.out.step hs56)
 have hbm:b1 ∈ s.blocks:=List.mem_of_getElem? HB1b.out
 have hcall:=HQ.out b1 hbm W6 ρ2 h1 (B++B1) G gc f2 bb' (o'+4) m a' fr' h' HRN6.out (hs56.fresh HFR5.out) HG2.out HFS.out.1 HAT6.out HMN.out HRES.out
 have hvl:f2.length=fr.length:=by rw [HFE.out.1,List.length_set,HLF.out]
 rw [hvl] at hcall
 have HCALL2:=Hd.mk hcall
 have HBD:=Hd.mk (hs56.blk' HB5.out HT2.out (fun h=>hGS.out (congrArg Prod.snd h).symm))
 have HTD:=Hd.mk (hs56.tag HB5.out.lt HT2.out)
 have HSWD:=Hd.mk (HS5.out.trans (hs56.mono (T':=RunT G) (fun t h=>Or.inr h)))
 have HSc:=Hd.mk (Step.refl (fun _=>False) W6 ρ2)
 have HW6:=Hd.mk hW6
 clear hs56 hfs hcall hvl hW6 hbm
 go_wp2_with fail
 rw [HW6.out]
 refine HCALL2.out.mono ?_
 rintro e Wn ⟨ρn,Bn,xn,sn,rfl,han,hrn,hfn,hsn,hgn⟩
 have HA3:=Hd.mk han
 have HR3:=Hd.mk hrn
 have HF3:=Hd.mk hfn
 have HSC:=Hd.mk hsn
 have HG3:=Hd.mk hgn
 have HSc:=Hd.mk ((HSc.out.mono (T':=fun t=>RunT G t∨t=(43,w.heap.size)) (fun _ h=>h.elim)).trans (hsn.mono (fun t h=>Or.inl h)))
 have hnt:¬RunT G (43,w.heap.size):=fun h=>by
  rcases h with h|h
  ·rcases h with h|h|h <;> cases h
  ·exact hGS.out (congrArg Prod.snd h).symm
 have hbn:=hsn.blk' HBD.out HTD.out hnt
 have HTN:=Hd.mk (hsn.tag HBD.out.lt HTD.out)
 have HBN:=Hd.mk hbn
 have q0:Wn.cell? ⟨w.heap.size,0,none⟩=some (.int .i64 0):=hbn.cell (i:=0) rfl
 have q1:Wn.cell? ⟨w.heap.size,1,none⟩=some (.pointer none):=hbn.cell (i:=1) rfl
 have g0:=hbn.free 0
 have g1:=hbn.free 1
 have ln:=hbn.lt
 obtain ⟨u0,u1,rfl⟩:=han.two
 clear han hrn hfn hsn hgn hbn hnt HCALL2
 clear E18 G0 G1 GF0 GF1 LS LG
 go_wp2
 refine bodyPost_ret (results_cell2 rfl _ _ w.heap.size [.int .i64 u0, .pointer u1] rfl ?_ Try.underlying64 rfl) rfl ?_
 ·exact (HBN.out.setCell 0 _).setCell 1 _
 ·exact BlkP.fin (B':=B1++Bn) (HSWD.out.trans HSC.out) (Nat.le_refl _) HTN.out hGS.out (by rw [←List.append_assoc];exact HR3.out) (by rw [←List.append_assoc];exact HF3.out) (by rw [←List.append_assoc];exact HA3.out) HG3.out
theorem choose_17no (g:Sg) (hres0:blkR K b0 fr h=some (.error g,f1,h1)) (a':Ans) (fr':Fr) (h':Hp) (hres:(g.code<0∧a'= .error g∧fr'=f1∧h'=h1)∨(0≤g.code∧armsR K 2 g s.blocks f1 h1=some (a',fr',h'))) :
 Calls Try.prog 47 #[.pointer (some ⟨R,0,none⟩), .pointer (some ⟨sb,so,none⟩), .slice (some ⟨X,0,none⟩) ag.length ac, .slice (some ⟨G,0,none⟩) fr.length gc] w (BlkP p n N szs fuel R w ρ B G gc a' fr' h'):=by
 have HRN:=Hd.mk hr
 have HFR:=Hd.mk hfr
 have HG:=Hd.mk hG
 have HFA:=Hd.mk hF
 have HST:=Hd.mk hst
 have HFM:=Hd.mk hfrm
 have HQ:=Hd.mk hQ
 have HMN:=Hd.mk hmN
 have HXG:=Hd.mk hXG
 have HS1:=Hd.mk ((Step.refl (fun _=>False) w ρ).alloc_tag (.cells #[.int .i64 0, .pointer none] 64) (43,w.heap.size))
 have HB0:Hd (Blk (w.alloc (.cells #[.int .i64 0, .pointer none] 64)) w.heap.size 64 [.int .i64 0, .pointer none]):=⟨Blk.new' _ _ _⟩
 have HT0:Hd (ρ.put w.heap.size (43,w.heap.size) w.heap.size=some (43,w.heap.size)):=⟨Ghost.put_same _ _ _⟩
 have HG1:Hd (OkG (ρ.put w.heap.size (43,w.heap.size))):=⟨hG.frame _⟩
 have HRES:=Hd.mk hres
 have HRES0:=Hd.mk hres0
 have HOP:=Hd.mk hop
 have HB0b:=Hd.mk hb0
 obtain ⟨_,_,_,_,e0, -⟩:=hst.cells
 rw [hop] at e0
 have lS:=hst.lt
 clear hres hres0 hop hb0
 clear hr hfr hG hF hst hfrm hQ hmN hXG
 have hGS:Hd (¬G=w.heap.size):=⟨by have:=HFM.out.lt;omega⟩
 have hXS:Hd (¬X=w.heap.size):=⟨by have:=HFA.out.lt;omega⟩
 have HRN1:=Hd.mk (HRN.out.step HS1.out (fun _ _ h=>h))
 have HFR1:=Hd.mk (HS1.out.fresh HFR.out)
 have HFA1:=Hd.mk (HFA.out.step HS1.out (fun h=>h))
 have HFM1:=Hd.mk (HFM.out.step HS1.out (fun h=>h))
 have HST1:=Hd.mk (HST.out.step HS1.out)
 have HSW:=Hd.mk (HS1.out.mono (T':=RunT G) (fun _ h=>h.elim))
 obtain ⟨_,_,Ab',cb',_,_,_,_,_,e18,_,hbks,_,_,_,_⟩:=HST.out.cells
 obtain ⟨bb,o,hAb,hat⟩:=hbks.place HB0b.out
 subst hAb
 rw [Nat.zero_mul,Nat.add_zero] at hat
 have hkl:=(List.getElem?_eq_some_iff.1 HB0b.out).1
 have hkm:b0 ∈ s.blocks:=List.mem_of_getElem? HB0b.out
 have hkli:(0:Int)<s.blocks.length:=by omega
 have hklN:0<s.blocks.length:=hkl
 have HBKS:=Hd.mk hbks
 have HCALL2:=Hd.mk (HQ.out b0 hkm (w.alloc (.cells #[.int .i64 0, .pointer none] 64)) (ρ.put w.heap.size (43,w.heap.size)) h B G gc fr bb o m _ f1 h1 HRN1.out HFR1.out HG1.out HFM1.out (hat.step HS1.out) HMN.out HRES0.out)
 clear hbks hat hkl hkm
 go_enter Try.func47,Try.ntmps47
 go_wp2_with fail
 refine HCALL2.out.mono ?_
 rintro e W2 ⟨ρ2,B1,x2,s2,rfl,ha2,hr2,hf2,hs2,hg2⟩
 clear e0 e18 lS hkli hklN
 have hlf:f1.length=fr.length:=blkR_len K b0 HRES0.out
 have hnt:¬RunT G (43,w.heap.size):=fun h=>by
  rcases h with h|h
  ·rcases h with h|h|h <;> cases h
  ·exact hGS.out (congrArg Prod.snd h).symm
 have hbn:=hs2.blk' HB0.out HT0.out hnt
 have HT2:=Hd.mk (hs2.tag HB0.out.lt HT0.out)
 have HB2:=Hd.mk hbn
 have HR2:=Hd.mk hr2
 have HF2:=Hd.mk hf2
 have HS2:=Hd.mk (HSW.out.trans hs2)
 have HG2:=Hd.mk hg2
 have HST2:=Hd.mk (HST1.out.step hs2)
 have HFR2:=Hd.mk (hs2.fresh HFR1.out)
 have HLF:=Hd.mk hlf
 obtain ⟨XS,rfl,rfl,hsg⟩:=ha2
 have HSG:=Hd.mk hsg
 clear hr2 hf2 hs2 hg2 hlf hnt hbn hsg HCALL2
 have HT14:=Hd.mk ((Step.refl (fun _=>False) W2 ρ2).alloc (.cells #[.int .i64 0, .pointer none] 64))
 have HR3w:=Hd.mk (HR2.out.step HT14.out (fun _ _ h=>h))
 have HF3w:=Hd.mk (HF2.out.step HT14.out (fun h=>h))
 have HS3w:=Hd.mk (HS2.out.trans (HT14.out.mono (T':=RunT G) (fun _ h=>h.elim)))
 have HST3:=Hd.mk (HST2.out.step HT14.out)
 have HFR3:=Hd.mk (HT14.out.fresh HFR2.out)
 have HB3w:=Hd.mk (HT14.out.blk' HB2.out HT2.out (fun h=>h))
 have HSG3:=Hd.mk (HSG.out.step HT14.out)
 have hlen:s.blocks.length≤9223372036854775807:=by
  obtain ⟨_,_,hv,h2,h3⟩:=SlR.form HBKS.out
  cases hv
  unfold maxLen at h3
  omega
 go_wp2_with fail
 generalize W2.alloc (.cells #[.int .i64 0, .pointer none] 64)=W3 at *
 obtain ⟨c,hc⟩:∃ z,g.code=z:=⟨_,rfl⟩
 have HCc:=Hd.mk hc
 clear hc
 go_loopw [16] (fun vk wr=>∃ k:Nat,vk= .int .i64 k∧2≤k∧(k=2∨k≤s.blocks.length)∧armsR K 2 g s.blocks f1 h1=armsR K 0 g (s.blocks.drop k) f1 h1∧Step (fun _=>False) W3 ρ2 wr ρ2) (fun v _=>s.blocks.length-(intOf v).toNat)
 case atStart=>exact ⟨2,by simp,by omega, .inl rfl,armsR_skip K g f1 h1 2 s.blocks,Step.refl _ _ _⟩
 case round =>
  obtain ⟨k,rfl,hk2,hkl,he,hS⟩:=hrel
  have HE:=Hd.mk he
  have HSr:=Hd.mk hS
  have HKL:=Hd.mk hkl
  clear he hS hkl
  have hstr:=HST3.out.step HSr.out
  obtain ⟨_,_,Abk,cbk,_,_,_,_,_,e18,_,hbks,_,_,_,_⟩:=hstr.cells
  have lS:=hstr.lt
  have hsgr:=HSG3.out.step HSr.out
  have s0:wr.cell? ⟨XS,0,none⟩=some (.int .i64 c):=by rw [←HCc.out];exact hsgr.2.1.cell (i:=0) rfl
  have s1:wr.cell? ⟨XS,1,none⟩=some (.int .i64 g.payload):=hsgr.2.1.cell (i:=1) rfl
  have lXS:=hsgr.2.1.lt
  have HSGR:=Hd.mk hsgr
  have HSTR:=Hd.mk hstr
  have HBKR:=Hd.mk hbks
  clear hstr hbks hsgr
  by_cases hlt:k<s.blocks.length
  ·have hlti:(k:Int)<s.blocks.length:=by omega
   have hkz:(0:Int)≤k:=by omega
   by_cases hc0:c<0
   ·have HRZ:Hd (a'= .error g∧fr'=f1∧h'=h1):=⟨by
     rcases HRES.out with h|h
     ·exact h.2
     ·have:=HCc.out;omega⟩
    have w1:decide (0≤c)=false:=decide_eq_false (by omega)
    have w2:decide (c ≥ 0)=false:=decide_eq_false (by omega)
    have hrr:=HRZ.out
    obtain ⟨ha,hf,hh⟩:=hrr
    subst ha
    subst hf
    subst hh
    have HBE:=Hd.mk (HSr.out.blk' HB3w.out HT2.out (fun h=>h))
    have HTE:=Hd.mk (HSr.out.tag HB3w.out.lt HT2.out)
    have HRE:=Hd.mk (HR3w.out.step HSr.out (fun _ _ h=>h))
    have HFE3:=Hd.mk (HF3w.out.step HSr.out (fun h=>h))
    have HSE3:=Hd.mk (HS3w.out.trans (HSr.out.mono (T':=RunT G) (fun _ h=>h.elim)))
    have HGE:=Hd.mk (HSG3.out.step HSr.out)
    have q0:wr.cell? ⟨w.heap.size,0,none⟩=some (.int .i64 0):=HBE.out.cell (i:=0) rfl
    have q1:wr.cell? ⟨w.heap.size,1,none⟩=some (.pointer none):=HBE.out.cell (i:=1) rfl
    have gg0:=HBE.out.free 0
    have gg1:=HBE.out.free 1
    have lss:=HBE.out.lt
    go_wp2
    refine bodyPost_ret (results_cell2 rfl _ _ w.heap.size [.int .i64 0, .pointer none] rfl ?_ Try.underlying64 rfl) rfl ?_
    ·exact (HBE.out.setCell 0 _).setCell 1 _
    ·exact BlkP.fin (B':=B1) HSE3.out (Nat.le_refl _) HTE.out hGS.out HRE.out HFE3.out ⟨XS,rfl,rfl,HGE.out⟩ HG2.out
   ·have HARM:Hd (armsR K 0 g (s.blocks.drop k) f1 h1=some (a',fr',h')):=⟨by
     rcases HRES.out with h|h
     ·have:=HCc.out;omega
     ·rw [←HE.out];exact h.2⟩
    have w1:decide (0≤c)=true:=decide_eq_true (by omega)
    have w2:decide (c ≥ 0)=true:=decide_eq_true (by omega)
    have hbk:=List.getElem?_eq_getElem hlt
    have hdr:=armsR_drop (K:=K) (g:=g) (fr:=f1) (h:=h1) hbk
    have hbm:s.blocks[k] ∈ s.blocks:=List.getElem_mem hlt
    obtain ⟨bb',o',hAb,hat⟩:=HBKR.out.place hbk
    subst hAb
    generalize s.blocks[k]=b1 at *
    have HDR:=Hd.mk hdr
    have HB1m:=Hd.mk hbm
    obtain ⟨m',D1,k1,D2,k2,_,f0c,f1c,_,_,hints,_,_,_⟩:=hat.cells
    have HINT:=Hd.mk hints
    have lbb:=hat.lt
    have HAT:=Hd.mk hat
    clear hbk hdr hbm hat hints
    obtain ⟨bc,hbc⟩:∃ z,b1.code=z:=⟨_,rfl⟩
    rw [hbc] at f0c
    have HBC:=Hd.mk hbc
    clear hbc
    by_cases hcc:bc=c
    ·have w3:(bc == c)=true:=by simp [hcc]
     have w4:decide (bc=c)=true:=decide_eq_true hcc
     have HARM2:Hd ((bind0 (wd g.payload) b1 f1).bind (fun fr=>blkR K b1 fr h1)=some (a',fr',h')):=⟨by
      rw [←HARM.out,HDR.out,if_pos (by rw [HBC.out,HCc.out,hcc])]⟩
     clear hcc
     obtain ⟨f2,hb2,hres2⟩:=Option.bind_eq_some_iff.1 HARM2.out
     have HRES2:=Hd.mk hres2
     obtain ⟨x,bs,hbd,hse⟩:∃ x bs,b1.bind=x :: bs∧setI f1 x (wd g.payload)=some f2:=by
      unfold bind0 at hb2
      cases hbb:b1.bind with
      |nil=>rw [hbb] at hb2;cases hb2
      |cons x bs=>rw [hbb] at hb2;exact ⟨x,bs,rfl,hb2⟩
     have HBDD:=Hd.mk hbd
     have HSE:=Hd.mk hse
     clear hb2 hres2 hbd hse
     go_wp2_with fail
     go_quiet (skip)
     have hsq:=(Step.refl (fun _=>False) wr ρ2).drewN nq
     have HSQ:=Hd.mk (HSr.out.trans hsq)
     obtain ⟨bi,oi,hBi,nbi,f3,lbi⟩:=(HINT.out.step hsq).elemT (k:=0) (x:=x) (by rw [HBDD.out];rfl)
     subst hBi
     have HATQ:=Hd.mk (HAT.out.step hsq)
     have HSGQ:=Hd.mk (HSGR.out.step hsq)
     have f1q:(wr.drewN nq).cell? ⟨bb',o'+k*4+1,none⟩=some (.slice (some ⟨bi,oi,none⟩) b1.bind.length k1):=f1c
     clear f0c f1c lbb s0 s1 lXS e18 lS w1 w2 w3 w4 hsq
     generalize World.drewN _ nq=W3q at *
     obtain ⟨ii,hii,hil,hfe⟩:=setI_get HSE.out
     rw [hii,Nat.add_zero] at f3
     have s1:W3q.cell? ⟨XS,1,none⟩=some (.int .i64 g.payload):=HSGQ.out.2.1.cell (i:=1) rfl
     have lXS:=HSGQ.out.2.1.lt
     have lbb:=HATQ.out.lt
     have hbl:(0:Int)<b1.bind.length:=by rw [HBDD.out];simp only [List.length_cons];omega
     have hblN:0<b1.bind.length:=by omega
     have HF3q:=Hd.mk (HF3w.out.step HSQ.out (fun h=>h))
     have HR3q:=Hd.mk (HR3w.out.step HSQ.out (fun _ _ h=>h))
     have HB3q:=Hd.mk (HSQ.out.blk' HB3w.out HT2.out (fun h=>h))
     have HT3q:=Hd.mk (HSQ.out.tag HB3w.out.lt HT2.out)
     have HS3q:=Hd.mk (HS3w.out.trans (HSQ.out.mono (T':=RunT G) (fun _ h=>h.elim)))
     have HFRq:=Hd.mk (HSQ.out.fresh HFR3.out)
     obtain ⟨g0,g1,gf,_⟩:=HF3q.out.cells (List.getElem?_eq_getElem hil)
     generalize f1[ii]=old at g0 g1
     have lG:=HF3q.out.lt
     have gf0:=gf (ii*2)
     have gf1:=gf (ii*2+1)
     have hilf:(ii:Int)<fr.length:=by have:=HLF.out;omega
     have hiz:(0:Int)≤ii:=by omega
     have nG:=HF3q.out.tag
     have nbb:=HATQ.out.tag
     have hneB:¬bb'=G:=fun h=>by rw [h,nG] at nbb;cases nbb
     have hneSS:¬w.heap.size=G:=fun h=>hGS.out h.symm
     have HFE:=Hd.mk (And.intro hfe hil)
     have HVO:Hd (VOk (B++B1).length (wd g.payload)):=⟨⟨HSG.out.2.2.2,fun k h=>by cases h⟩⟩
     have nXS:=HSGQ.out.1
     have hsd0:=(Step.refl (fun _=>False) W3q ρ2).drew
     have hfs0:=(HF3q.out.step hsd0 (fun h=>h)).set (i:=ii) (v:=wd g.payload) HFE.out.2 HVO.out
     rw [show ptrV (B++B1) (wd g.payload)=none from rfl,show (wd g.payload).word=g.payload from rfl] at hfs0
     have HKS:=Hd.mk ((hsd0.mono (fun _ h=>h.elim)).trans hfs0.2)
     have HNX:Hd (¬(((43,X):Tag)=(43,G))):=⟨fun h=>HXG.out (congrArg Prod.snd h).symm⟩
     have HSc:=Hd.mk hsd0
     clear hii hfe gf nG hsd0 hfs0
     go_wp2_with fail
     refine wp_region_held_drew (S:=(fun wv=>∀ a:Addr,a.block<W3q.heap.size→(ρ2 a.block=none∨ρ2 a.block=some (43,X))→wv.cell? a=W3q.cell? a)) (by kernel_rfl) (keepV_of HSc.out (fun h=>h)) (fun hHeld=>?_)
     refine tkP 0 ?_
     refine tkP 1 ?_
     refine tkP 2 ?_
     refine tkP 3 ?_
     refine tkP 4 ?_
     refine tkP 5 ?_
     refine tkP 6 ?_
     refine tkP 7 ?_
     refine tkP 8 ?_
     refine tkP 9 ?_
     refine tkP 10 ?_
     refine tkP 11 ?_
     refine tkP 12 ?_
     refine tkR 13 (fun K hK=>?_)
     go_simp
     try clear hHeld
     refine tkK hK (keepV_of HKS.out HNX.out) (fun hHeld=>?_)
     clear hK K
     refine wpAnyH_done (by kernel_rfl) ?_ _
     try clear hHeld
     clear nbb nbi nXS HKS HSc
     clear g0 g1 gf0 gf1 lG f1q f3 lbi lbb hbl hblN s1 lXS
     have hfs:=HF3q.out.set (i:=ii) (v:=wd g.payload) HFE.out.2 HVO.out
     rw [←HFE.out.1,show ptrV (B++B1) (wd g.payload)=none from rfl,show (wd g.payload).word=g.payload from rfl] at hfs
     have hs56:=hfs.2.drew
     have hf6:=hfs.1.step ((Step.refl (fun _=>False) _ ρ2).drew) (fun h=>h)
     generalize hW6:((W3q.setCell ⟨G,ii*2,none⟩ (.int .i64 g.payload)).setCell ⟨G,ii*2+1,none⟩ (.pointer none)).drew=W6 at hs56 hf6
     have HRN6:=Hd.mk (HR3q.out.step hs56 (fun t h1 h2=>by rw [h2] at h1;rcases h1 with h1|h1|h1 <;> cases h1))
     have HAT6:=Hd.mk (HATQ.out.step hs56)
     have hcall:=HQ.out b1 HB1m.out W6 ρ2 h1 (B++B1) G gc f2 bb' (o'+k*4) m a' fr' h' HRN6.out (hs56.fresh HFRq.out) HG2.out hf6 HAT6.out HMN.out HRES2.out
     have hvl:f2.length=fr.length:=by rw [HFE.out.1,List.length_set,HLF.out]
     rw [hvl] at hcall
     have HCALL2:=Hd.mk hcall
     have HBD:=Hd.mk (hs56.blk' HB3q.out HT3q.out (fun h=>hGS.out (congrArg Prod.snd h).symm))
     have HTD:=Hd.mk (hs56.tag HB3q.out.lt HT3q.out)
     have HSWD:=Hd.mk (HS3q.out.trans (hs56.mono (T':=RunT G) (fun t h=>Or.inr h)))
     have HSc:=Hd.mk (Step.refl (fun _=>False) W6 ρ2)
     have HW6:=Hd.mk hW6
     clear hs56 hfs hcall hvl hW6 hf6
     go_wp2_with fail
     try rw [HW6.out]
     refine HCALL2.out.mono ?_
     rintro e Wn ⟨ρn,Bn,xn,sn,rfl,han,hrn,hfn,hsn,hgn⟩
     have HA3:=Hd.mk han
     have HR3:=Hd.mk hrn
     have HF3:=Hd.mk hfn
     have HSC:=Hd.mk hsn
     have HG3:=Hd.mk hgn
     have HSc:=Hd.mk ((HSc.out.mono (T':=fun t=>RunT G t∨t=(43,w.heap.size)) (fun _ h=>h.elim)).trans (hsn.mono (fun t h=>Or.inl h)))
     have hnt:¬RunT G (43,w.heap.size):=fun h=>by
      rcases h with h|h
      ·rcases h with h|h|h <;> cases h
      ·exact hGS.out (congrArg Prod.snd h).symm
     have hbn:=hsn.blk' HBD.out HTD.out hnt
     have HTN:=Hd.mk (hsn.tag HBD.out.lt HTD.out)
     have HBN:=Hd.mk hbn
     have q0:Wn.cell? ⟨w.heap.size,0,none⟩=some (.int .i64 0):=hbn.cell (i:=0) rfl
     have q1:Wn.cell? ⟨w.heap.size,1,none⟩=some (.pointer none):=hbn.cell (i:=1) rfl
     have g0:=hbn.free 0
     have g1:=hbn.free 1
     have ln:=hbn.lt
     obtain ⟨u0,u1,rfl⟩:=han.two
     clear han hrn hfn hsn hgn hbn hnt HCALL2
     go_wp2
     refine bodyPost_ret (results_cell2 rfl _ _ w.heap.size [.int .i64 u0, .pointer u1] rfl ?_ Try.underlying64 rfl) rfl ?_
     ·exact (HBN.out.setCell 0 _).setCell 1 _
     ·exact BlkP.fin (B':=B1++Bn) (HSWD.out.trans HSC.out) (Nat.le_refl _) HTN.out hGS.out (by rw [←List.append_assoc];exact HR3.out) (by rw [←List.append_assoc];exact HF3.out) (by rw [←List.append_assoc];exact HA3.out) HG3.out
    ·have w3:(bc == c)=false:=by simp [hcc]
     have w4:decide (bc=c)=false:=decide_eq_false hcc
     have HE2:Hd (armsR K 2 g s.blocks f1 h1=armsR K 0 g (s.blocks.drop (k+1)) f1 h1):=⟨by
      rw [HE.out,HDR.out,if_neg (by rw [HBC.out,HCc.out];exact hcc)]⟩
     clear hcc
     go_wp2_with fail
     go_quiet (skip)
     have HSq:=Hd.mk (HSr.out.drewN nq)
     clear f0c f1c lbb s0 s1 lXS e18 lS w1 w2 w3 w4
     generalize World.drewN _ nq=Wq at *
     go_wp2
     go_roundw
     case rel=>exact ⟨k+1,by go_num,by omega, .inr (by omega),HE2.out,HSq.out⟩
     case measure=>simp [intOf];omega
  ·have HRZ:Hd (a'= .error g∧fr'=f1∧h'=h1):=⟨by
    rcases HRES.out with h|h
    ·exact h.2
    ·have h2:=h.2
     rw [HE.out,List.drop_eq_nil_of_le (by omega),armsR] at h2
     cases h2
     exact ⟨rfl,rfl,rfl⟩⟩
   have hltI:¬((k:Int)<s.blocks.length):=by omega
   have hrr:=HRZ.out
   obtain ⟨ha,hf,hh⟩:=hrr
   subst ha
   subst hf
   subst hh
   have HBE:=Hd.mk (HSr.out.blk' HB3w.out HT2.out (fun h=>h))
   have HTE:=Hd.mk (HSr.out.tag HB3w.out.lt HT2.out)
   have HRE:=Hd.mk (HR3w.out.step HSr.out (fun _ _ h=>h))
   have HFE3:=Hd.mk (HF3w.out.step HSr.out (fun h=>h))
   have HSE3:=Hd.mk (HS3w.out.trans (HSr.out.mono (T':=RunT G) (fun _ h=>h.elim)))
   have HGE:=Hd.mk (HSG3.out.step HSr.out)
   have q0:wr.cell? ⟨w.heap.size,0,none⟩=some (.int .i64 0):=HBE.out.cell (i:=0) rfl
   have q1:wr.cell? ⟨w.heap.size,1,none⟩=some (.pointer none):=HBE.out.cell (i:=1) rfl
   have gg0:=HBE.out.free 0
   have gg1:=HBE.out.free 1
   have lss:=HBE.out.lt
   go_wp2
   refine bodyPost_ret (results_cell2 rfl _ _ w.heap.size [.int .i64 0, .pointer none] rfl ?_ Try.underlying64 rfl) rfl ?_
   ·exact (HBE.out.setCell 0 _).setCell 1 _
   ·exact BlkP.fin (B':=B1) HSE3.out (Nat.le_refl _) HTE.out hGS.out HRE.out HFE3.out ⟨XS,rfl,rfl,HGE.out⟩ HG2.out
end
end
end
section
open Go Go.RowKit
def chooseR (K:Ctx) (op:Int) (ag:List Vl) (blocks:List Bk) (fr:Fr) (h:Hp):Option (Ans × Fr × Hp) :=
 if op=26 then (match ag with|a :: _=>nthR K blocks (1-a.word) (fun _ fr=>some fr) fr h|[]=>none)
 else if op=27 then (match ag with
  |a :: _=>(match a.cell with
   |none=>nthR K blocks a.word (fun _ fr=>some fr) fr h
   |some k=>(match h.cells[k]? with|some c=>nthR K blocks c.code (fun b fr=>bindAll fr b.bind c.parts) fr h|none=>none))
  |[]=>none)
 else (nthR K blocks 0 (fun _ fr=>some fr) fr h).bind fun r=>match r.1 with
  |.ok v=>nthR K blocks 1 (bind0 v) r.2.1 r.2.2
  |.error g=>if g.code<0 then some (.error g,r.2) else armsR K 2 g blocks r.2.1 r.2.2
theorem choose_any (p:Pg) (n N:Nat) (szs:List Int) (fuel:Int) (R:Nat) (w:World) (ρ:Ghost) (h:Hp) (B:List Nat) (hr:RnR p n N szs fuel R w ρ h B) (hfr:Fresh w ρ) (hG:OkG ρ) (K:Ctx) (m:Nat) (hmN:m≤N) (s:St) (sb so:Nat) (hst:StAt w ρ m s sb so) (hQ:∀ b,b ∈ s.blocks→BlkQ p n N szs fuel R K b) (X ac G gc:Nat) (hXG:¬G=X) (fr:Fr) (hfrm:FrR w ρ B G gc fr) (ag:List Vl) (hF:FrR w ρ B X ac ag) (hop:s.op=26∨s.op=27∨s.op=17) (a':Ans) (fr':Fr) (h':Hp) (hres:chooseR K s.op ag s.blocks fr h=some (a',fr',h')) :
 Calls Try.prog 47 #[.pointer (some ⟨R,0,none⟩), .pointer (some ⟨sb,so,none⟩), .slice (some ⟨X,0,none⟩) ag.length ac, .slice (some ⟨G,0,none⟩) fr.length gc] w (BlkP p n N szs fuel R w ρ B G gc a' fr' h'):=by
 unfold chooseR at hres
 by_cases h26:s.op=26
 ·rw [if_pos h26] at hres
  cases ag with
  |nil=>cases hres
  |cons a l =>
   dsimp only at hres
   obtain ⟨k,b,h1,h2,h3⟩:=nthR_get hres
   exact choose_26 p n N szs fuel R w ρ h B hr hfr hG K m hmN s sb so hst hQ X ac G gc hXG fr hfrm a l hF h26 k b h1 h2 a' fr' h' h3
 ·rw [if_neg h26] at hres
  by_cases h27:s.op=27
  ·rw [if_pos h27] at hres
   cases ag with
   |nil=>cases hres
   |cons a l =>
    dsimp only at hres
    cases hc:a.cell with
    |none =>
     rw [hc] at hres
     dsimp only at hres
     obtain ⟨k,b,h1,h2,h3⟩:=nthR_get hres
     exact choose_27n p n N szs fuel R w ρ h B hr hfr hG K m hmN s sb so hst hQ X ac G gc hXG fr hfrm a l hF h27 hc k b h1 h2 a' fr' h' h3
    |some kk =>
     rw [hc] at hres
     dsimp only at hres
     cases hcc:h.cells[kk]? with
     |none=>rw [hcc] at hres;cases hres
     |some c =>
      rw [hcc] at hres
      dsimp only at hres
      obtain ⟨k,b,h1,h2,h3⟩:=nthR_get hres
      obtain ⟨fr1,h4,h5⟩:=Option.bind_eq_some_iff.1 h3
      exact choose_27c p n N szs fuel R w ρ h B hr hfr hG K m hmN s sb so hst hQ X ac G gc hXG fr hfrm a l hF h27 kk c (by unfold Hp.of;rw [hc,Option.bind_some,hcc];rfl) k b h1 h2 fr1 h4 a' fr' h' h5
  ·rw [if_neg h27] at hres
   have h17:s.op=17:=by omega
   obtain ⟨⟨a1,f1,h1⟩,h2,h3⟩:=Option.bind_eq_some_iff.1 hres
   obtain ⟨k,b0,hk,hb0,hr0⟩:=nthR_get h2
   have hk0:k=0:=by omega
   subst hk0
   have hr0:blkR K b0 fr h=some (a1,f1,h1):=hr0
   cases a1 with
   |ok v =>
    dsimp only at h3
    obtain ⟨k,b1,hk,hb1,hr1⟩:=nthR_get h3
    have hk1:k=1:=by omega
    subst hk1
    obtain ⟨f2,h4,h5⟩:=Option.bind_eq_some_iff.1 hr1
    unfold bind0 at h4
    cases hbb:b1.bind with
    |nil=>rw [hbb] at h4;cases h4
    |cons x bs =>
     rw [hbb] at h4
     exact choose_17ok p n N szs fuel R w ρ h B hr hfr hG K m hmN s sb so hst hQ X ac G gc hXG fr hfrm b0 hb0 f1 h1 ag hF h17 b1 hb1 v x bs hbb f2 h4 hr0 a' fr' h' h5
   |error g =>
    dsimp only at h3
    refine choose_17no p n N szs fuel R w ρ h B hr hfr hG K m hmN s sb so hst hQ X ac G gc hXG fr hfrm b0 hb0 f1 h1 ag hF h17 g hr0 a' fr' h' ?_
    by_cases hg:g.code<0
    ·rw [if_pos hg] at h3
     cases h3
     exact .inl ⟨hg,rfl,rfl,rfl⟩
    ·rw [if_neg hg] at h3
     exact .inr ⟨by omega,h3⟩
end
end Go.Proofs.Ytadffbgbndibpaa
