/- RyB: lemmas and walks of the claim. -/
import Derived.Test.YtadffbgbndibpaaKRyC
import Derived.Test.YtadffbgbndibpaaKGaF
set_option linter.unusedVariables false
set_option linter.unusedSimpArgs false
set_option maxHeartbeats 16000000
set_option maxRecDepth 100000
namespace Go.Proofs.Ytadffbgbndibpaa
open Go Go.RowKit
def roCells (r:RunOut) (A:Option Addr) (c:Nat):List Value:=[.int .i64 r.answer, .slice A r.outs.length c, .int .i64 r.fault, .string r.exn, .int .i64 r.payload, .int .i64 r.ticks]
theorem Run_any (n:Nat) (w:World) (p:Pg) (v1 v2 v3:Value) (hR:PgR w NoG n p [v1,v2,v3, .int .i64 p.main]) (hsz:szDs p.datas+szFs p.funs≤1000000) (Aa:Option Addr) (ca:Nat) (ag:List Int) (hag:SlR w NoG 1 8 IntR (.slice Aa ag.length ca) ag) (hal:ag.length≤1000) (fuel:Int) (hfu:I64 fuel) (r:RunOut) (hr:runP p ag fuel=some r) :
 Calls Try.prog 8 #[.agg #[v1,v2,v3, .int .i64 p.main], .slice Aa ag.length ca, .int .i64 fuel] w fun e w'=>∃ A c,e= .returned (.agg (roCells r A c).toArray)∧SlR w' NoG 1 0 IntV (.slice A r.outs.length c) r.outs∧Below w.heap.size w w':=by
 have HPG:=Hd.mk hR
 obtain ⟨v1',v2',v3',hcs,hmain,hT1,hT2,hT3⟩:=hR
 simp only [List.cons.injEq,and_true,true_and] at hcs
 obtain ⟨rfl,rfl,rfl⟩:=hcs
 have hT1:DatsR w NoG n v1 p.datas:=hT1
 have hT3:FusR w NoG n v3 p.funs:=hT3
 obtain ⟨A1,c1,rfl,hlc1,hcm1⟩:=SlR.form hT1
 obtain ⟨A2,c2,rfl,_,hcm2⟩:=SlR.form hT2
 obtain ⟨A3,c3,rfl,hlc3,hcm3⟩:=SlR.form hT3
 simp only [maxLen] at hcm3
 have HL3:Hd (p.funs.length≤9223372036854775807):=⟨by omega⟩
 have HT1:=Hd.mk hT1
 have HT2:=Hd.mk hT2
 have HT3:=Hd.mk hT3
 have HSZ0:=Hd.mk hsz
 have HAG:=Hd.mk hag
 have HAL:=Hd.mk hal
 have HFU:=Hd.mk hfu
 have HR:=Hd.mk hr
 have HMA:=Hd.mk hmain
 have HS1:=Hd.mk (((Step.refl (fun _=>False) w NoG).alloc (.cells #[.slice A1 p.datas.length c1, .slice A2 p.exns.length c2, .slice A3 p.funs.length c3, .int .i64 p.main] 26)).alloc (.cells #[.int .i64 0, .slice none 0 0, .int .i64 0, .string ⟨#[]⟩, .int .i64 0, .int .i64 0] 34))
 have HB1:Hd (Blk ((w.alloc (.cells #[.slice A1 p.datas.length c1, .slice A2 p.exns.length c2, .slice A3 p.funs.length c3, .int .i64 p.main] 26)).alloc (.cells #[.int .i64 0, .slice none 0 0, .int .i64 0, .string ⟨#[]⟩, .int .i64 0, .int .i64 0] 34)) w.heap.size 26 [.slice A1 p.datas.length c1, .slice A2 p.exns.length c2, .slice A3 p.funs.length c3, .int .i64 p.main]):=⟨(Blk.new' _ _ _).alloc _⟩
 have hb2:=Blk.new' (w.alloc (.cells #[.slice A1 p.datas.length c1, .slice A2 p.exns.length c2, .slice A3 p.funs.length c3, .int .i64 p.main] 26)) #[.int .i64 0, .slice none 0 0, .int .i64 0, .string ⟨#[]⟩, .int .i64 0, .int .i64 0] 34
 rw [World.size_alloc] at hb2
 have HB2:=Hd.mk hb2
 have hw1:((w.alloc (.cells #[.slice A1 p.datas.length c1, .slice A2 p.exns.length c2, .slice A3 p.funs.length c3, .int .i64 p.main] 26)).alloc (.cells #[.int .i64 0, .slice none 0 0, .int .i64 0, .string ⟨#[]⟩, .int .i64 0, .int .i64 0] 34)).heap.size=w.heap.size+2:=by simp
 have HW1:=Hd.mk hw1
 clear hT1 hT2 hT3 hcm1 hlc1 hcm2 hlc3 hcm3 hr hmain hsz hag hal hfu hb2 hw1
 go_enter Try.func8,Try.ntmps8
 go_wp2_with fail
 generalize (w.alloc (.cells #[.slice A1 p.datas.length c1, .slice A2 p.exns.length c2, .slice A3 p.funs.length c3, .int .i64 p.main] 26)).alloc (.cells #[.int .i64 0, .slice none 0 0, .int .i64 0, .string ⟨#[]⟩, .int .i64 0, .int .i64 0] 34)=W at *
 have hcall:=Valid_any n W p _ _ _ (HPG.out.step HS1.out) HSZ0.out
 obtain ⟨z,hz⟩:∃ z,validP p=z:=⟨_,rfl⟩
 rw [hz] at hcall
 have HZ:=Hd.mk hz
 refine hcall.mono ?_
 clear hcall hz
 rintro e W2 ⟨rfl,hb2⟩
 have HS12:Hd (Step (fun _=>False) W NoG W2 NoG):=⟨Step.ofBelow NoG hb2⟩
 have HS2:=Hd.mk (HS1.out.trans HS12.out)
 clear hb2
 have hb1:=HS12.out.blk HB1.out (fun t ht=>by cases ht)
 have hb2:=HS12.out.blk HB2.out (fun t ht=>by cases ht)
 have b2:W2.cell? ⟨w.heap.size,2,none⟩=some (.slice A3 p.funs.length c3):=hb1.cell (i:=2) rfl
 have b3:W2.cell? ⟨w.heap.size,3,none⟩=some (.int .i64 p.main):=hb1.cell (i:=3) rfl
 have HB1':=Hd.mk hb1
 have HB2':=Hd.mk hb2
 have l1:=hb1.lt
 have l2:=hb2.lt
 have hr0:W2.cell? ⟨w.heap.size+1,0,none⟩=some (.int .i64 0):=hb2.cell (i:=0) rfl
 have hr1:W2.cell? ⟨w.heap.size+1,1,none⟩=some (.slice none 0 0):=hb2.cell (i:=1) rfl
 have hr2:W2.cell? ⟨w.heap.size+1,2,none⟩=some (.int .i64 0):=hb2.cell (i:=2) rfl
 have hr3:W2.cell? ⟨w.heap.size+1,3,none⟩=some (.string ⟨#[]⟩):=hb2.cell (i:=3) rfl
 have hr4:W2.cell? ⟨w.heap.size+1,4,none⟩=some (.int .i64 0):=hb2.cell (i:=4) rfl
 have hr5:W2.cell? ⟨w.heap.size+1,5,none⟩=some (.int .i64 0):=hb2.cell (i:=5) rfl
 have g0:=hb2.free 0
 have g1:=hb2.free 1
 have g2:=hb2.free 2
 have g3:=hb2.free 3
 have g4:=hb2.free 4
 have g5:=hb2.free 5
 have hst:Hd (∀ w4,Step (fun _=>False) w NoG w4 NoG→Blk w4 (w.heap.size+1) 34 [.int .i64 0, .slice none 0 0, .int .i64 3, .string ⟨#[]⟩, .int .i64 0, .int .i64 0]→True):=⟨fun _ _ _=>trivial⟩
 clear hb1 hb2 hst
 by_cases hz0:z=0
 ·subst hz0
  obtain ⟨mi,f,hmi,hfm⟩:=main_of HZ.out
  have HRV:=Hd.mk (runP_valid HZ.out ag fuel hmi hfm)
  generalize hmn:p.main=mn at *
  subst hmi
  have HMN:=Hd.mk hmn
  have HFM:=Hd.mk hfm
  obtain ⟨fb,fo,e1,e2,vp,va0,r1,r2,vb,vs,rfl,hFV,hFC⟩:=FusR.elem (FusR.step HT3.out HS2.out) hfm
  obtain ⟨P1,p1,rfl,hpl1,hpl2⟩:=SlR.form hFV.params
  have f7:W2.cell? ⟨fb,fo+mi*19+7,none⟩=some (.slice P1 f.params.length p1):=hFC 7 _ rfl
  have hml:mi<p.funs.length:=(List.getElem?_eq_some_iff.1 hfm).1
  have hmi1:(mi:Int)<p.funs.length:=by omega
  have hmi0:(0:Int)≤mi:=by omega
  clear hmn hfm hFV hFC hpl1 hpl2 hml
  by_cases hage:ag.length=f.params.length
  ·have hagi:(ag.length:Int)=f.params.length:=by omega
   have b0:W2.cell? ⟨w.heap.size,0,none⟩=some (.slice A1 p.datas.length c1):=HB1'.out.cell (i:=0) rfl
   have b1:W2.cell? ⟨w.heap.size,1,none⟩=some (.slice A2 p.exns.length c2):=HB1'.out.cell (i:=1) rfl
   have HAE:=Hd.mk hage
   clear hage
   go_wp2_with (first|(refine wpList_max rfl _ _ _ _ rfl _ _ rfl rfl ?_)|(refine wpList_min rfl _ _ _ _ rfl _ _ rfl rfl ?_))
   obtain ⟨fz,hfz⟩:∃ z,min (max fuel 0) 8192=z:=⟨_,rfl⟩
   have HFZ:Hd (fuelN fuel=fz∧0≤fz∧fz≤8192):=⟨by unfold fuelN;exact hfz,by omega,by omega⟩
   rw [hfz]
   clear hfz
   have hbr:=Blk.new' W2 #[.slice A1 p.datas.length c1, .slice A2 p.exns.length c2, .slice (some ⟨fb,fo,none⟩) p.funs.length c3, .int .i64 mi, .slice none 0 0, .int .i64 fz, .int .i64 0, .slice none 0 0] 59
   have hsr:=(Step.refl (fun _=>False) W2 NoG).alloc_tag (.cells #[.slice A1 p.datas.length c1, .slice A2 p.exns.length c2, .slice (some ⟨fb,fo,none⟩) p.funs.length c3, .int .i64 mi, .slice none 0 0, .int .i64 fz, .int .i64 0, .slice none 0 0] 59) (40,0)
   have HBR:=Hd.mk hbr
   have HSR:=Hd.mk hsr
   have HTR:Hd (NoG.put W2.heap.size (40,0) W2.heap.size=some (40,0)):=⟨Ghost.put_same _ _ _⟩
   have HTO:Hd (∀ b,b≠W2.heap.size→NoG.put W2.heap.size (40,0) b=none):=⟨fun b hb=>Ghost.put_ne _ _ hb⟩
   have lRb:w.heap.size+1<W2.heap.size:=HB2'.out.lt
   have lR0:W2.heap.size<(W2.alloc (.cells #[.slice A1 p.datas.length c1, .slice A2 p.exns.length c2, .slice (some ⟨fb,fo,none⟩) p.funs.length c3, .int .i64 mi, .slice none 0 0, .int .i64 fz, .int .i64 0, .slice none 0 0] 59)).heap.size:=by simp
   clear hagi hbr hsr hr0 hr1 hr2 hr3 hr4 hr5 g0 g1 g2 g3 g4 g5 b0 b1 b2 b3 f7 l1 l2
   obtain ⟨R,hRe⟩:∃ z,W2.heap.size=z:=⟨_,rfl⟩
   generalize W2.alloc (.cells #[.slice A1 p.datas.length c1, .slice A2 p.exns.length c2, .slice (some ⟨fb,fo,none⟩) p.funs.length c3, .int .i64 mi, .slice none 0 0, .int .i64 fz, .int .i64 0, .slice none 0 0] 59)=W3 at *
   have HRE:=Hd.mk hRe
   generalize hρ3:NoG.put W2.heap.size (40,0)=ρ3 at *
   rw [hRe] at *
   clear hRe hρ3
   have HL3':=HL3
   go_loopw [42] (fun vk wr=>∃ (k:Nat) (ρk:Ghost) (A4:Option Addr) (c4:Nat),vk= .int .i64 k∧k≤p.funs.length∧Blk wr R 59 [.slice A1 p.datas.length c1, .slice A2 p.exns.length c2, .slice (some ⟨fb,fo,none⟩) p.funs.length c3, .int .i64 mi, .slice A4 k c4, .int .i64 fz, .int .i64 0, .slice none 0 0]∧ρk R=some (40,0)∧OwnSl wr ρk (40,2) 3 1 (.slice A4 k c4) k ((p.funs.take k).map (fun f=>Value.int .i64 (sizeF f)))∧Step (fun _=>False) W2 NoG wr ρk) (fun v _=>p.funs.length-(intOf v).toNat)
   case atStart=>exact ⟨0,ρ3,none,0,rfl,by omega,HBR.out,HTR.out,by rw [List.take_zero];exact OwnSl.nil _ _ _ _ _,HSR.out⟩
   case round =>
    obtain ⟨k,ρk,A4,c4,rfl,hk,hbk,htk,hok,hsk⟩:=hrel
    have HBK:=Hd.mk hbk
    have HTK:=Hd.mk htk
    have HOK:=Hd.mk hok
    have HSK0:=Hd.mk hsk
    clear hbk htk hok hsk
    by_cases hlt:k<p.funs.length
    ·have hlti:(k:Int)<p.funs.length:=by omega
     have hkz:(0:Int)≤k:=by omega
     have hxx:=List.getElem?_eq_getElem hlt
     generalize p.funs[k]=g at hxx
     obtain ⟨hvar,hs0,hs1⟩:=valid_var HZ.out hxx
     obtain ⟨b',o',cs,hee,hcl,hFR,hcs⟩:=SlR.get (FusR.step (FusR.step HT3.out HS2.out) HSK0.out) hxx
     cases hee
     have hone:cs.toArray.all (·.oneCell')=true:=FuR.one hFR
     have hin:(Try.prog.info? 48).map (·.size)=some 19:=by kernel_rfl
     have hin2:(Try.prog.info? 48).map (·.size)=some cs.length:=by rw [hcl];exact hin
     have HSZ:Hd (cs.toArray.size=19):=⟨by rw [List.size_toArray,hcl]⟩
     have HCC:Hd (wr.rangeAt fb (fo+k*19) cs):=⟨hcs⟩
     have HIN:=Hd.mk hin2
     have HON:=Hd.mk hone
     have HGK:=Hd.mk hxx
     have HVAR:=Hd.mk hvar
     have HFR:=Hd.mk hFR
     have hsa:=(Step.refl (fun _=>False) wr ρk).alloc_tag (.cells cs.toArray 48) (40,3)
     have HSA:=Hd.mk hsa
     have HXB:Hd (Blk (wr.alloc (.cells cs.toArray 48)) wr.heap.size 48 cs):=⟨Blk.new' wr cs.toArray 48⟩
     have HTX0:Hd (ρk.put wr.heap.size (40,3) wr.heap.size=some (40,3)):=⟨Ghost.put_same _ _ _⟩
     have HKL:Hd (k≤1000000):=⟨by have h1:=HSZ0.out;have h2:=szFs_len p.funs;omega⟩
     clear hone hin hin2 hcs hcl hFR hxx hvar hsa
     go_wp2_with (first|(refine wpList_load_mid rfl 48 _ rfl fb (fo+k*19) rfl cs _ HCC.out Try.underlying48 rfl HIN.out ?_)|(refine wpList_store_newV rfl 48 _ _ rfl _ cs.toArray rfl rfl (by rw [List.size_toArray];exact HIN.out) (by exact (Eq.trans rfl HSZ.out.symm)) HON.out ?_))
     refine ⟨?_⟩
     have HSK:=Hd.mk (HSK0.out.trans HSA.out)
     have hbRk:=HSA.out.blk HBK.out (fun t _ h=>h)
     have htRk:=HSA.out.tag HBK.out.lt HTK.out
     have HOWN:=Hd.mk (HOK.out.step HSA.out (fun h=>h))
     have hlX:wr.heap.size<(wr.alloc (.cells cs.toArray 48)).heap.size:=by simp
     have HNE:Hd (¬wr.heap.size=R):=⟨fun e=>by have:=HBK.out.lt;omega⟩
     have HFRk:=Hd.mk (HFR.out.step HSA.out)
     clear HBK HTK HOK HSK0 HCC HFR HSA
     generalize ρk.put wr.heap.size (40,3)=ρk' at *
     clear ρk
     obtain ⟨ρk,rfl⟩:∃ z,z=ρk':=⟨_,rfl⟩
     generalize wr.alloc (.cells cs.toArray 48)=Wk at *
     generalize wr.heap.size=Xs at *
     have HBRk:=Hd.mk hbRk
     have HTRk:=Hd.mk htRk
     have HTX:=HTX0
     have XL:=Hd.mk hlX
     have XNR:=HNE
     have HR2:Hd (Wk.rangeAt Xs 0 cs):=⟨fun j v hv=>by rw [Nat.zero_add];exact HXB.out.cell hv⟩
     have r4:Wk.cell? ⟨R,4,none⟩=some (.slice A4 k c4):=hbRk.cell (i:=4) rfl
     have rf4:=hbRk.free 4
     have rlt:=hbRk.lt
     have HSIZE:=Hd.mk (size_any Wk.drew ρk n g cs (HFRk.out.step ((Step.refl (fun _=>False) Wk ρk).drew)) HVAR.out)
     clear hbRk htRk hlX
     go_wp2_with fail
     refine wp_region_held_drew (S:=(fun wv=>∀ a:Addr,a.block<Wk.heap.size→¬ρk a.block=some (40,2)→¬a.block=R→wv.cell? a=Wk.cell? a)) (by kernel_rfl) ((fun _ _ _ _=>rfl)) (fun hHeld=>?_)
     refine tkP 0 ?_
     refine tkP 1 ?_
     refine tkP 2 ?_
     refine tkP 3 ?_
     refine tkL 5 (.agg cs.toArray) ?_ ?_
     ·exact yieldsIf_load_mid (by rfl) _ _ rfl Xs 0 rfl cs _ (fun wv hSw j v hv=>(hSw ⟨Xs,0+j,none⟩ XL.out (by rw [HTX.out];simp) XNR.out).trans (HR2.out j v hv)) Try.underlying48 rfl HIN.out
     refine wpAnyH_ready (rs:=[4,6]) (by kernel_rfl) (by simp) ?_
     refine AllReadyH.cons (by simp only [List.getElem?_toArray,List.getElem?_cons_succ,List.getElem?_cons_zero];rfl) (fun K hK=>?_) (AllReadyH.cons (by simp only [List.getElem?_toArray,List.getElem?_cons_succ,List.getElem?_cons_zero];rfl) (fun K hK=>?_) AllReadyH.nil)
     ·rw [if_pos (by rfl)]
      go_simp
      try clear hHeld
      refine tkK hK (by first|exact fun _ _ _ _=>rfl|exact fun a h1 _ _=>HQ3.out a h1|exact fun a h1 _ _=>(World.cell?_alloc_lt _ _ _ (Nat.lt_of_lt_of_le h1 HL3.out)).trans (HQ3.out a h1)|exact fun a h1 h2 _=>World.cell?_of_block (HS5.out.block a.block h1 (fun t ht hT=>h2 (by rw [ht,hT])))|exact fun a h1 h2 h3=>(cellSetNe h3 4 _).trans (World.cell?_of_block (HS5.out.block a.block h1 (fun t ht hT=>h2 (by rw [ht,hT]))))) (fun hHeld=>?_)
      clear hK K
      refine tkR 6 (fun K hK=>?_)
      go_simp
      go_at_call 15
      refine HSIZE.out.mono ?_
      rintro e W3 ⟨rfl,hb3⟩
      have HQ3:Hd (∀ a:Addr,a.block<Wk.heap.size→W3.cell? a=Wk.cell? a):=⟨fun a ha=>World.cell?_of_block (hb3.block a.block ha)⟩
      have HL3:Hd (Wk.heap.size≤W3.heap.size):=⟨hb3.size⟩
      have HS3:Hd (Step (fun _=>False) Wk ρk W3 ρk):=⟨((Step.refl (fun _=>False) Wk ρk).drew).of_below hb3⟩
      have r4':W3.cell? ⟨R,4,none⟩=some (.slice A4 k c4):=(HQ3.out ⟨R,4,none⟩ rlt).trans r4
      have r4a:(W3.alloc (.cells #[.int .i64 (sizeF g)] 3)).cell? ⟨R,4,none⟩=some (.slice A4 k c4):=(World.cell?_alloc_lt _ _ _ (Nat.lt_of_lt_of_le rlt HL3.out)).trans r4'
      clear hb3
      go_wp2_with fail
      try clear hHeld
      refine tkK hK (by first|exact fun _ _ _ _=>rfl|exact fun a h1 _ _=>HQ3.out a h1|exact fun a h1 _ _=>(World.cell?_alloc_lt _ _ _ (Nat.lt_of_lt_of_le h1 HL3.out)).trans (HQ3.out a h1)|exact fun a h1 h2 _=>World.cell?_of_block (HS5.out.block a.block h1 (fun t ht hT=>h2 (by rw [ht,hT])))|exact fun a h1 h2 h3=>(cellSetNe h3 4 _).trans (World.cell?_of_block (HS5.out.block a.block h1 (fun t ht hT=>h2 (by rw [ht,hT]))))) (fun hHeld=>?_)
      clear hK K
      refine tkR 7 (fun K hK=>?_)
      go_simp
      try clear hHeld
      refine tkK hK (by first|exact fun _ _ _ _=>rfl|exact fun a h1 _ _=>HQ3.out a h1|exact fun a h1 _ _=>(World.cell?_alloc_lt _ _ _ (Nat.lt_of_lt_of_le h1 HL3.out)).trans (HQ3.out a h1)|exact fun a h1 h2 _=>World.cell?_of_block (HS5.out.block a.block h1 (fun t ht hT=>h2 (by rw [ht,hT])))|exact fun a h1 h2 h3=>(cellSetNe h3 4 _).trans (World.cell?_of_block (HS5.out.block a.block h1 (fun t ht hT=>h2 (by rw [ht,hT]))))) (fun hHeld=>?_)
      clear hK K
      refine tkR 8 (fun K hK=>?_)
      have hsx:=HS3.out.alloc (.cells #[.int .i64 (sizeF g)] 3)
      have HNW:Hd (∀ j u,([.int .i64 (sizeF g)]:List Value)[j]? =some u→(W3.alloc (.cells #[.int .i64 (sizeF g)] 3)).cell? ((⟨W3.heap.size,0,none⟩:Addr).add j)=some u):=⟨fun j u hu=>by
       have hadd:(⟨W3.heap.size,0,none⟩:Addr).add j=⟨W3.heap.size,j,none⟩:=by unfold Addr.add;split <;> simp_all
       rw [hadd,(Blk.new W3 [.int .i64 (sizeF g)] _).at,hu]⟩
      have HOX:=Hd.mk (HOWN.out.step hsx (fun h=>h))
      have HSX:=Hd.mk hsx
      clear hsx
      refine wp_append_ownS _ _ 38 rfl 3 _ 1 8 Try.underlying38 infoInt rfl (by omega) ρk (40,2) _ _ _ rfl HOX.out ⟨W3.heap.size,0,none⟩ 1 1 [.int .i64 (sizeF g)] rfl rfl HNW.out (by simp [Value.oneCell']) (by have:=HKL.out;unfold maxLen;omega) (by have:=HKL.out;omega) ?_
      intro v5 W5 ρ5 hO5 hS5
      obtain ⟨A6,c6,rfl,_⟩:=hO5.form
      have HS5:=Hd.mk ((HSX.out.mono (T':=(· =((40,2):Tag))) (fun _ h=>h.elim)).trans hS5)
      have HO5:=Hd.mk hO5
      have hbR5:=HS5.out.blk' HBRk.out HTRk.out (by simp)
      have r45:W5.cell? ⟨R,4,none⟩=some (.slice A4 k c4):=hbR5.cell (i:=4) rfl
      have rf45:=hbR5.free 4
      have HBR5:=Hd.mk hbR5
      have HTR5:=Hd.mk (HS5.out.tag HBRk.out.lt HTRk.out)
      clear hO5 hS5 hbR5
      try clear hHeld
      refine tkK hK (by first|exact fun _ _ _ _=>rfl|exact fun a h1 _ _=>HQ3.out a h1|exact fun a h1 _ _=>(World.cell?_alloc_lt _ _ _ (Nat.lt_of_lt_of_le h1 HL3.out)).trans (HQ3.out a h1)|exact fun a h1 h2 _=>World.cell?_of_block (HS5.out.block a.block h1 (fun t ht hT=>h2 (by rw [ht,hT])))|exact fun a h1 h2 h3=>(cellSetNe h3 4 _).trans (World.cell?_of_block (HS5.out.block a.block h1 (fun t ht hT=>h2 (by rw [ht,hT]))))) (fun hHeld=>?_)
      clear hK K
      refine tkP 9 ?_
      refine tkP 10 ?_
      refine tkR 11 (fun K hK=>?_)
      go_simp
      try clear hHeld
      refine tkK hK (by first|exact fun _ _ _ _=>rfl|exact fun a h1 _ _=>HQ3.out a h1|exact fun a h1 _ _=>(World.cell?_alloc_lt _ _ _ (Nat.lt_of_lt_of_le h1 HL3.out)).trans (HQ3.out a h1)|exact fun a h1 h2 _=>World.cell?_of_block (HS5.out.block a.block h1 (fun t ht hT=>h2 (by rw [ht,hT])))|exact fun a h1 h2 h3=>(cellSetNe h3 4 _).trans (World.cell?_of_block (HS5.out.block a.block h1 (fun t ht hT=>h2 (by rw [ht,hT]))))) (fun hHeld=>?_)
      clear hK K
      refine wpAnyH_done (by kernel_rfl) ?_ _
      try clear hHeld
      have hS6:Step (fun t=>t.1=40) Wk ρk (W5.setCell ⟨R,4,none⟩ (.slice A6 (k+1) c6)) ρ5:=Step.setCell (T:=fun t=>t.1=40) (HS5.out.mono (fun t h=>by rw [h])) (a:=⟨R,4,none⟩) (t:=(40,0)) HTR5.out rfl _
      have HS6:=Hd.mk (((HSK.out.mono (T':=fun t=>t.1=40) (fun _ h=>h.elim)).trans hS6).free (fun _=>rfl))
      have HB6:=Hd.mk (HBR5.out.setCell 4 (.slice A6 (k+1) c6))
      have HO6:=Hd.mk (OwnSl.step (T:=fun t=>t=(40,0)) HO5.out (Step.setCell (T:=fun t=>t=(40,0)) (a:=⟨R,4,none⟩) (Step.refl _ W5 ρ5) HTR5.out rfl (.slice A6 (k+1) c6)) (by simp))
      clear hS6 r4 r4' r4a r45 rf45
      generalize W5.setCell ⟨R,4,none⟩ (.slice A6 (k+1) c6)=W6 at *
      go_wp2
      go_roundw
      case rel =>
       have hw:=wrap_succ hlt HL3'.out
       refine ⟨k+1,ρ5,A6,c6,by first|rw [hw]|exact congrArg _ hw|rfl,hlt,HB6.out,HTR5.out,?_,HS6.out⟩
       have hO:=HO6.out
       rw [show (p.funs.take (k+1)).map (fun f=>Value.int .i64 (sizeF f))=(p.funs.take k).map (fun f=>Value.int .i64 (sizeF f))++[.int .i64 (sizeF g)] by rw [List.take_add_one,HGK.out];simp]
       exact hO
      case measure=>first|exact measure_succ hlt HL3'.out|exact measure_plus hlt
     ·rw [if_pos (by rfl)]
      go_simp
      go_at_call 15
      refine HSIZE.out.mono ?_
      rintro e W3 ⟨rfl,hb3⟩
      have HQ3:Hd (∀ a:Addr,a.block<Wk.heap.size→W3.cell? a=Wk.cell? a):=⟨fun a ha=>World.cell?_of_block (hb3.block a.block ha)⟩
      have HL3:Hd (Wk.heap.size≤W3.heap.size):=⟨hb3.size⟩
      have HS3:Hd (Step (fun _=>False) Wk ρk W3 ρk):=⟨((Step.refl (fun _=>False) Wk ρk).drew).of_below hb3⟩
      have r4':W3.cell? ⟨R,4,none⟩=some (.slice A4 k c4):=(HQ3.out ⟨R,4,none⟩ rlt).trans r4
      have r4a:(W3.alloc (.cells #[.int .i64 (sizeF g)] 3)).cell? ⟨R,4,none⟩=some (.slice A4 k c4):=(World.cell?_alloc_lt _ _ _ (Nat.lt_of_lt_of_le rlt HL3.out)).trans r4'
      clear hb3
      go_wp2_with fail
      try clear hHeld
      refine tkK hK (by first|exact fun _ _ _ _=>rfl|exact fun a h1 _ _=>HQ3.out a h1|exact fun a h1 _ _=>(World.cell?_alloc_lt _ _ _ (Nat.lt_of_lt_of_le h1 HL3.out)).trans (HQ3.out a h1)|exact fun a h1 h2 _=>World.cell?_of_block (HS5.out.block a.block h1 (fun t ht hT=>h2 (by rw [ht,hT])))|exact fun a h1 h2 h3=>(cellSetNe h3 4 _).trans (World.cell?_of_block (HS5.out.block a.block h1 (fun t ht hT=>h2 (by rw [ht,hT]))))) (fun hHeld=>?_)
      clear hK K
      refine wpAnyH_ready (rs:=[4,7]) (by kernel_rfl) (by simp) ?_
      refine AllReadyH.cons (by simp only [List.getElem?_toArray,List.getElem?_cons_succ,List.getElem?_cons_zero];rfl) (fun K hK=>?_) (AllReadyH.cons (by simp only [List.getElem?_toArray,List.getElem?_cons_succ,List.getElem?_cons_zero];rfl) (fun K hK=>?_) AllReadyH.nil)
      ·rw [if_pos (by rfl)]
       go_simp
       try clear hHeld
       refine tkK hK (by first|exact fun _ _ _ _=>rfl|exact fun a h1 _ _=>HQ3.out a h1|exact fun a h1 _ _=>(World.cell?_alloc_lt _ _ _ (Nat.lt_of_lt_of_le h1 HL3.out)).trans (HQ3.out a h1)|exact fun a h1 h2 _=>World.cell?_of_block (HS5.out.block a.block h1 (fun t ht hT=>h2 (by rw [ht,hT])))|exact fun a h1 h2 h3=>(cellSetNe h3 4 _).trans (World.cell?_of_block (HS5.out.block a.block h1 (fun t ht hT=>h2 (by rw [ht,hT]))))) (fun hHeld=>?_)
       clear hK K
       refine tkR 7 (fun K hK=>?_)
       go_simp
       try clear hHeld
       refine tkK hK (by first|exact fun _ _ _ _=>rfl|exact fun a h1 _ _=>HQ3.out a h1|exact fun a h1 _ _=>(World.cell?_alloc_lt _ _ _ (Nat.lt_of_lt_of_le h1 HL3.out)).trans (HQ3.out a h1)|exact fun a h1 h2 _=>World.cell?_of_block (HS5.out.block a.block h1 (fun t ht hT=>h2 (by rw [ht,hT])))|exact fun a h1 h2 h3=>(cellSetNe h3 4 _).trans (World.cell?_of_block (HS5.out.block a.block h1 (fun t ht hT=>h2 (by rw [ht,hT]))))) (fun hHeld=>?_)
       clear hK K
       refine tkR 8 (fun K hK=>?_)
       have hsx:=HS3.out.alloc (.cells #[.int .i64 (sizeF g)] 3)
       have HNW:Hd (∀ j u,([.int .i64 (sizeF g)]:List Value)[j]? =some u→(W3.alloc (.cells #[.int .i64 (sizeF g)] 3)).cell? ((⟨W3.heap.size,0,none⟩:Addr).add j)=some u):=⟨fun j u hu=>by
        have hadd:(⟨W3.heap.size,0,none⟩:Addr).add j=⟨W3.heap.size,j,none⟩:=by unfold Addr.add;split <;> simp_all
        rw [hadd,(Blk.new W3 [.int .i64 (sizeF g)] _).at,hu]⟩
       have HOX:=Hd.mk (HOWN.out.step hsx (fun h=>h))
       have HSX:=Hd.mk hsx
       clear hsx
       refine wp_append_ownS _ _ 38 rfl 3 _ 1 8 Try.underlying38 infoInt rfl (by omega) ρk (40,2) _ _ _ rfl HOX.out ⟨W3.heap.size,0,none⟩ 1 1 [.int .i64 (sizeF g)] rfl rfl HNW.out (by simp [Value.oneCell']) (by have:=HKL.out;unfold maxLen;omega) (by have:=HKL.out;omega) ?_
       intro v5 W5 ρ5 hO5 hS5
       obtain ⟨A6,c6,rfl,_⟩:=hO5.form
       have HS5:=Hd.mk ((HSX.out.mono (T':=(· =((40,2):Tag))) (fun _ h=>h.elim)).trans hS5)
       have HO5:=Hd.mk hO5
       have hbR5:=HS5.out.blk' HBRk.out HTRk.out (by simp)
       have r45:W5.cell? ⟨R,4,none⟩=some (.slice A4 k c4):=hbR5.cell (i:=4) rfl
       have rf45:=hbR5.free 4
       have HBR5:=Hd.mk hbR5
       have HTR5:=Hd.mk (HS5.out.tag HBRk.out.lt HTRk.out)
       clear hO5 hS5 hbR5
       try clear hHeld
       refine tkK hK (by first|exact fun _ _ _ _=>rfl|exact fun a h1 _ _=>HQ3.out a h1|exact fun a h1 _ _=>(World.cell?_alloc_lt _ _ _ (Nat.lt_of_lt_of_le h1 HL3.out)).trans (HQ3.out a h1)|exact fun a h1 h2 _=>World.cell?_of_block (HS5.out.block a.block h1 (fun t ht hT=>h2 (by rw [ht,hT])))|exact fun a h1 h2 h3=>(cellSetNe h3 4 _).trans (World.cell?_of_block (HS5.out.block a.block h1 (fun t ht hT=>h2 (by rw [ht,hT]))))) (fun hHeld=>?_)
       clear hK K
       refine tkP 9 ?_
       refine tkP 10 ?_
       refine tkR 11 (fun K hK=>?_)
       go_simp
       try clear hHeld
       refine tkK hK (by first|exact fun _ _ _ _=>rfl|exact fun a h1 _ _=>HQ3.out a h1|exact fun a h1 _ _=>(World.cell?_alloc_lt _ _ _ (Nat.lt_of_lt_of_le h1 HL3.out)).trans (HQ3.out a h1)|exact fun a h1 h2 _=>World.cell?_of_block (HS5.out.block a.block h1 (fun t ht hT=>h2 (by rw [ht,hT])))|exact fun a h1 h2 h3=>(cellSetNe h3 4 _).trans (World.cell?_of_block (HS5.out.block a.block h1 (fun t ht hT=>h2 (by rw [ht,hT]))))) (fun hHeld=>?_)
       clear hK K
       refine wpAnyH_done (by kernel_rfl) ?_ _
       try clear hHeld
       have hS6:Step (fun t=>t.1=40) Wk ρk (W5.setCell ⟨R,4,none⟩ (.slice A6 (k+1) c6)) ρ5:=Step.setCell (T:=fun t=>t.1=40) (HS5.out.mono (fun t h=>by rw [h])) (a:=⟨R,4,none⟩) (t:=(40,0)) HTR5.out rfl _
       have HS6:=Hd.mk (((HSK.out.mono (T':=fun t=>t.1=40) (fun _ h=>h.elim)).trans hS6).free (fun _=>rfl))
       have HB6:=Hd.mk (HBR5.out.setCell 4 (.slice A6 (k+1) c6))
       have HO6:=Hd.mk (OwnSl.step (T:=fun t=>t=(40,0)) HO5.out (Step.setCell (T:=fun t=>t=(40,0)) (a:=⟨R,4,none⟩) (Step.refl _ W5 ρ5) HTR5.out rfl (.slice A6 (k+1) c6)) (by simp))
       clear hS6 r4 r4' r4a r45 rf45
       generalize W5.setCell ⟨R,4,none⟩ (.slice A6 (k+1) c6)=W6 at *
       go_wp2
       go_roundw
       case rel =>
        have hw:=wrap_succ hlt HL3'.out
        refine ⟨k+1,ρ5,A6,c6,by first|rw [hw]|exact congrArg _ hw|rfl,hlt,HB6.out,HTR5.out,?_,HS6.out⟩
        have hO:=HO6.out
        rw [show (p.funs.take (k+1)).map (fun f=>Value.int .i64 (sizeF f))=(p.funs.take k).map (fun f=>Value.int .i64 (sizeF f))++[.int .i64 (sizeF g)] by rw [List.take_add_one,HGK.out];simp]
        exact hO
       case measure=>first|exact measure_succ hlt HL3'.out|exact measure_plus hlt
      ·rw [if_pos (by rfl)]
       go_simp
       try clear hHeld
       refine tkK hK (by first|exact fun _ _ _ _=>rfl|exact fun a h1 _ _=>HQ3.out a h1|exact fun a h1 _ _=>(World.cell?_alloc_lt _ _ _ (Nat.lt_of_lt_of_le h1 HL3.out)).trans (HQ3.out a h1)|exact fun a h1 h2 _=>World.cell?_of_block (HS5.out.block a.block h1 (fun t ht hT=>h2 (by rw [ht,hT])))|exact fun a h1 h2 h3=>(cellSetNe h3 4 _).trans (World.cell?_of_block (HS5.out.block a.block h1 (fun t ht hT=>h2 (by rw [ht,hT]))))) (fun hHeld=>?_)
       clear hK K
       refine tkR 4 (fun K hK=>?_)
       go_simp
       try clear hHeld
       refine tkK hK (by first|exact fun _ _ _ _=>rfl|exact fun a h1 _ _=>HQ3.out a h1|exact fun a h1 _ _=>(World.cell?_alloc_lt _ _ _ (Nat.lt_of_lt_of_le h1 HL3.out)).trans (HQ3.out a h1)|exact fun a h1 h2 _=>World.cell?_of_block (HS5.out.block a.block h1 (fun t ht hT=>h2 (by rw [ht,hT])))|exact fun a h1 h2 h3=>(cellSetNe h3 4 _).trans (World.cell?_of_block (HS5.out.block a.block h1 (fun t ht hT=>h2 (by rw [ht,hT]))))) (fun hHeld=>?_)
       clear hK K
       refine tkR 8 (fun K hK=>?_)
       have hsx:=HS3.out.alloc (.cells #[.int .i64 (sizeF g)] 3)
       have HNW:Hd (∀ j u,([.int .i64 (sizeF g)]:List Value)[j]? =some u→(W3.alloc (.cells #[.int .i64 (sizeF g)] 3)).cell? ((⟨W3.heap.size,0,none⟩:Addr).add j)=some u):=⟨fun j u hu=>by
        have hadd:(⟨W3.heap.size,0,none⟩:Addr).add j=⟨W3.heap.size,j,none⟩:=by unfold Addr.add;split <;> simp_all
        rw [hadd,(Blk.new W3 [.int .i64 (sizeF g)] _).at,hu]⟩
       have HOX:=Hd.mk (HOWN.out.step hsx (fun h=>h))
       have HSX:=Hd.mk hsx
       clear hsx
       refine wp_append_ownS _ _ 38 rfl 3 _ 1 8 Try.underlying38 infoInt rfl (by omega) ρk (40,2) _ _ _ rfl HOX.out ⟨W3.heap.size,0,none⟩ 1 1 [.int .i64 (sizeF g)] rfl rfl HNW.out (by simp [Value.oneCell']) (by have:=HKL.out;unfold maxLen;omega) (by have:=HKL.out;omega) ?_
       intro v5 W5 ρ5 hO5 hS5
       obtain ⟨A6,c6,rfl,_⟩:=hO5.form
       have HS5:=Hd.mk ((HSX.out.mono (T':=(· =((40,2):Tag))) (fun _ h=>h.elim)).trans hS5)
       have HO5:=Hd.mk hO5
       have hbR5:=HS5.out.blk' HBRk.out HTRk.out (by simp)
       have r45:W5.cell? ⟨R,4,none⟩=some (.slice A4 k c4):=hbR5.cell (i:=4) rfl
       have rf45:=hbR5.free 4
       have HBR5:=Hd.mk hbR5
       have HTR5:=Hd.mk (HS5.out.tag HBRk.out.lt HTRk.out)
       clear hO5 hS5 hbR5
       try clear hHeld
       refine tkK hK (by first|exact fun _ _ _ _=>rfl|exact fun a h1 _ _=>HQ3.out a h1|exact fun a h1 _ _=>(World.cell?_alloc_lt _ _ _ (Nat.lt_of_lt_of_le h1 HL3.out)).trans (HQ3.out a h1)|exact fun a h1 h2 _=>World.cell?_of_block (HS5.out.block a.block h1 (fun t ht hT=>h2 (by rw [ht,hT])))|exact fun a h1 h2 h3=>(cellSetNe h3 4 _).trans (World.cell?_of_block (HS5.out.block a.block h1 (fun t ht hT=>h2 (by rw [ht,hT]))))) (fun hHeld=>?_)
       clear hK K
       refine tkP 9 ?_
       refine tkP 10 ?_
       refine tkR 11 (fun K hK=>?_)
       go_simp
       try clear hHeld
       refine tkK hK (by first|exact fun _ _ _ _=>rfl|exact fun a h1 _ _=>HQ3.out a h1|exact fun a h1 _ _=>(World.cell?_alloc_lt _ _ _ (Nat.lt_of_lt_of_le h1 HL3.out)).trans (HQ3.out a h1)|exact fun a h1 h2 _=>World.cell?_of_block (HS5.out.block a.block h1 (fun t ht hT=>h2 (by rw [ht,hT])))|exact fun a h1 h2 h3=>(cellSetNe h3 4 _).trans (World.cell?_of_block (HS5.out.block a.block h1 (fun t ht hT=>h2 (by rw [ht,hT]))))) (fun hHeld=>?_)
       clear hK K
       refine wpAnyH_done (by kernel_rfl) ?_ _
       try clear hHeld
       have hS6:Step (fun t=>t.1=40) Wk ρk (W5.setCell ⟨R,4,none⟩ (.slice A6 (k+1) c6)) ρ5:=Step.setCell (T:=fun t=>t.1=40) (HS5.out.mono (fun t h=>by rw [h])) (a:=⟨R,4,none⟩) (t:=(40,0)) HTR5.out rfl _
       have HS6:=Hd.mk (((HSK.out.mono (T':=fun t=>t.1=40) (fun _ h=>h.elim)).trans hS6).free (fun _=>rfl))
       have HB6:=Hd.mk (HBR5.out.setCell 4 (.slice A6 (k+1) c6))
       have HO6:=Hd.mk (OwnSl.step (T:=fun t=>t=(40,0)) HO5.out (Step.setCell (T:=fun t=>t=(40,0)) (a:=⟨R,4,none⟩) (Step.refl _ W5 ρ5) HTR5.out rfl (.slice A6 (k+1) c6)) (by simp))
       clear hS6 r4 r4' r4a r45 rf45
       generalize W5.setCell ⟨R,4,none⟩ (.slice A6 (k+1) c6)=W6 at *
       go_wp2
       go_roundw
       case rel =>
        have hw:=wrap_succ hlt HL3'.out
        refine ⟨k+1,ρ5,A6,c6,by first|rw [hw]|exact congrArg _ hw|rfl,hlt,HB6.out,HTR5.out,?_,HS6.out⟩
        have hO:=HO6.out
        rw [show (p.funs.take (k+1)).map (fun f=>Value.int .i64 (sizeF f))=(p.funs.take k).map (fun f=>Value.int .i64 (sizeF f))++[.int .i64 (sizeF g)] by rw [List.take_add_one,HGK.out];simp]
        exact hO
       case measure=>first|exact measure_succ hlt HL3'.out|exact measure_plus hlt
    ·have hnlt:¬((k:Int)<p.funs.length):=by omega
     have HKE:Hd (k=p.funs.length):=⟨by omega⟩
     clear hlt hk
     have hBR:=HBK.out
     have hOS:=HOK.out
     rw [HKE.out] at hBR hOS
     rw [List.take_length] at hOS
     have HBR2:=Hd.mk hBR
     have HOS:=Hd.mk hOS
     have HTR2:=HTK
     have HSK:=HSK0
     clear hBR hOS HBK HOK HTK HSK0 HKE
     have hmk:=makeV wr 0 ag.length (Nat.zero_le _) (by have:=HAL.out;omega)
     rw [show (((0:Nat):Int))=0 from rfl] at hmk
     have hbG:=Blk.new wr (flatV [] (List.replicate ag.length nilV)) 64
     have hsG:=(Step.refl (fun _=>False) wr ρk).alloc_tag (.cells (flatV [] (List.replicate ag.length nilV)).toArray 64) (44,0)
     have HBG:=Hd.mk hbG
     have HSG:=Hd.mk hsG
     have HTG:Hd (ρk.put wr.heap.size (44,0) wr.heap.size=some (44,0)):=⟨Ghost.put_same _ _ _⟩
     have HLA:Hd (ag.length≤9223372036854775807):=⟨by have:=HAL.out;omega⟩
     clear hbG hsG
     go_wp2_with fail
     have HO0:Hd (OwnSl (wr.alloc (.cells (flatV [] (List.replicate ag.length nilV)).toArray 64)) (ρk.put wr.heap.size (44,0)) (44,0) 64 2 (.slice (some ⟨wr.heap.size,0,none⟩) 0 ag.length) 0 (flatV [] (([]:List Int).map wd))):=⟨OwnSl.mk HTG.out HBG.out (Nat.zero_le _) (by unfold maxLen;have:=HAL.out;omega) (by rw [flatV_len,List.length_replicate];exact Nat.le_refl _) rfl⟩
     have HBR3:=Hd.mk (HSG.out.blk HBR2.out (fun t _ h=>h))
     have HTR3:=Hd.mk (HSG.out.tag HBR2.out.lt HTR2.out)
     have HOS3:=Hd.mk (HOS.out.step HSG.out (fun h=>h))
     have HST3:=Hd.mk (HSK.out.trans HSG.out)
     clear HSG HTG HBG HSK HTR2 HBR2 HOS
     generalize ρk.put wr.heap.size (44,0)=ρg at *
     generalize wr.alloc (.cells (flatV [] (List.replicate ag.length nilV)).toArray 64)=Wg at *
     generalize wr.heap.size=Xg at *
     clear hmk
     go_loopw [10,63] (fun vl vj wr2=>∃ (j:Nat) (ρj:Ghost) (X cl:Nat),vj= .int .i64 j∧vl= .slice (some ⟨X,0,none⟩) j cl∧j≤ag.length∧OwnSl wr2 ρj (44,0) 64 2 (.slice (some ⟨X,0,none⟩) j cl) j (flatV [] ((ag.take j).map wd))∧Blk wr2 R 59 [.slice A1 p.datas.length c1, .slice A2 p.exns.length c2, .slice (some ⟨fb,fo,none⟩) p.funs.length c3, .int .i64 mi, .slice A4 p.funs.length c4, .int .i64 fz, .int .i64 0, .slice none 0 0]∧ρj R=some (40,0)∧OwnSl wr2 ρj (40,2) 3 1 (.slice A4 p.funs.length c4) p.funs.length (p.funs.map (fun f=>Value.int .i64 (sizeF f)))∧Step (fun _=>False) W2 NoG wr2 ρj) (fun _ v _=>ag.length-(intOf v).toNat)
     case atStart=>exact ⟨0,ρg,Xg,ag.length,rfl,rfl,by omega,HO0.out,HBR3.out,HTR3.out,HOS3.out,HST3.out⟩
     case round =>
      obtain ⟨j,ρj,X,cl,rfl,rfl,hj,hOj,hBj,hTj,hSj,hsj⟩:=hrel
      have HOJ:=Hd.mk hOj
      have HBJ:=Hd.mk hBj
      have HTJ:=Hd.mk hTj
      have HSJ:=Hd.mk hSj
      have HsJ:=Hd.mk hsj
      clear hOj hBj hTj hSj hsj
      by_cases hlj:j<ag.length
      ·have hlji:(j:Int)<ag.length:=by omega
       have hjz:(0:Int)≤j:=by omega
       have hxj:=List.getElem?_eq_getElem hlj
       generalize ag[j]=x at hxj
       obtain ⟨ab,ao,cs,rfl,hcl,⟨rfl,_⟩,hcs⟩:=SlR.get (HAG.out.step (HS2.out.trans HsJ.out) (fun _ _ _ h=>h)) hxj
       have gx:wr.cell? ⟨ab,ao+j,none⟩=some (.int .i64 x):=by
        have:=hcs 0 _ rfl
        rw [Nat.mul_one,Nat.add_zero] at this
        exact this
       have HXJ:=Hd.mk hxj
       clear hcs hcl hxj
       go_wp2_with (at_builtin;refine wpList_append_boxW rfl _ _ _ rfl 64 _ 2 16 Try.underlying61 infoV rfl (by decide) ρj (44,0) (.slice (some ⟨X,0,none⟩) j cl) j (flatV [] ((ag.take j).map wd)) [.int .i64 x, .pointer none] rfl HOJ.out 1 _ rfl (by first|rfl|simp) rfl (by simp [Value.oneCell']) (by have:=HAL.out;unfold maxLen;omega) (by have:=HAL.out;omega) ?z1)
       case z1 =>
        intro v6 W6 ρ6 hO6 hS6
        obtain ⟨X6,c6,hv6,_⟩:=hO6.some (by omega)
        subst hv6
        have HO6:=Hd.mk hO6
        have HB6:=Hd.mk (hS6.blk' HBJ.out HTJ.out (by simp))
        have HT6:=Hd.mk (hS6.tag HBJ.out.lt HTJ.out)
        have HZ6:=Hd.mk (HSJ.out.step hS6 (by simp))
        have HS6:=Hd.mk (((HsJ.out.mono (T':=(· =((44,0):Tag))) (fun _ h=>h.elim)).trans hS6).free (fun _=>rfl))
        clear hO6 hS6 gx
        go_wp2
        go_roundw
        case rel =>
         have hw:=wrap_succ hlj HLA.out
         refine ⟨j+1,ρ6,X6,c6,by first|rw [hw]|exact congrArg _ hw|rfl,rfl,hlj,?_,HB6.out,HT6.out,HZ6.out,HS6.out⟩
         rw [show (ag.take (j+1)).map wd=(ag.take j).map wd++[wd x] by rw [List.take_add_one,HXJ.out];simp,flatV_append]
         have h6:=HO6.out
         rw [←List.map_take] at h6
         exact h6
        case measure=>first|exact measure_succ hlj HLA.out|exact measure_plus hlj
      ·have hnlj:¬((j:Int)<ag.length):=by omega
       have HJE:Hd (j=ag.length):=⟨by omega⟩
       clear hlj hj
       have hbP:=HsJ.out.blk HB1'.out (fun t ht=>by cases ht)
       have b3:wr.cell? ⟨w.heap.size,3,none⟩=some (.int .i64 mi):=hbP.cell (i:=3) rfl
       have lP:=hbP.lt
       have HBP:=Hd.mk hbP
       have hO:=HOJ.out
       have hB:=HBJ.out
       rw [HJE.out] at hO
       rw [List.take_length] at hO
       rw [←HMN.out] at hB
       have hX9:ρj X=some (44,0):=by
        rcases hO.2 with ⟨h0,_⟩|⟨g9,_,_,h0,hr9,_⟩
        ·cases h0
        ·cases h0
         exact hr9
       obtain ⟨hRn,hFr,hFs,hOk,hSt⟩:=run_start HsJ.out (HsJ.out.fresh (NoG.fresh _)) hB HTJ.out HSJ.out (FusR.step HT3.out HS2.out) (fun f hf=>by obtain ⟨i9,h9⟩:=List.getElem?_of_mem hf;exact (valid_var HZ.out h9).2) (by have h1:=HSZ0.out;have h2:=szFs_len p.funs;omega) hO hX9 (fun x hx=>by obtain ⟨i9,h9⟩:=List.getElem?_of_mem hx;obtain ⟨_,_,_,_,_,hq,_⟩:=SlR.get HAG.out h9;exact hq.2) HAL.out HFZ.out.2.1 HFZ.out.2.2
       obtain ⟨⟨a',h'⟩,hk1,hk2⟩:∃ x,(fnR p (fuelN fuel) ((fuelN fuel).toNat+2)).fn (mi:Int) (ag.map wd) ⟨[],0,[]⟩=some x∧endR p x=some r:=by
        have h:=HR.out
        rw [HRV.out,if_neg (by rw [HAE.out];simp)] at h
        exact Option.bind_eq_some_iff.1 h
       rw [HFZ.out.1] at hk1
       have hcall:=(ctx_all (p:=p) (n:=n) (N:=n) (szs:=p.funs.map sizeF) (fuel:=fz) (R:=R) (Nat.le_refl n) (fun k f hf=>by rw [List.getElem?_map,hf];rfl) (fz.toNat+2)).fn wr (startG R X) ⟨[],0,[]⟩ [] X cl (ag.map wd) mi a' h' hRn hFs hOk hFr hk1
       rw [List.length_map, ←HJE.out] at hcall
       have HCALL:=Hd.mk hcall
       have HEND:=Hd.mk hk2
       have HST:=Hd.mk hSt
       have HBPR:=Hd.mk (hSt.blk HB1'.out (fun t ht=>by cases ht))
       have HTP:Hd (startG R X w.heap.size=none∧startG R X (w.heap.size+1)=none):=⟨(hSt.ghost _ HB1'.out.lt).trans rfl,(hSt.ghost _ HB2'.out.lt).trans rfl⟩
       have HBR9:=Hd.mk (hSt.blk HB2'.out (fun t ht=>by cases ht))
       clear hbP hO hB hX9 hRn hFr hFs hOk hSt hk1 hk2 hcall
       go_wp2_with fail
       refine HCALL.out.mono ?_
       clear HCALL
       rintro e W8 ⟨ρ8,B8,x8,s8,rfl,hA8,hR8,hS8,hG8⟩
       have HR8:=Hd.mk hR8
       have HS8:=Hd.mk (((HST.out.mono (T':=RunQ) (fun _ h=>h.elim)).trans hS8).free (fun _=>rfl))
       have HBP8:=Hd.mk (hS8.blk HBPR.out (fun t ht=>by rw [HTP.out.1] at ht;cases ht))
       have HBR8:=Hd.mk (hS8.blk HBR9.out (fun t ht=>by rw [HTP.out.2] at ht;cases ht))
       have HG8:=Hd.mk hS8.ghost
       clear b3 lP hR8 hS8 hG8
       cases a' with
       |ok v =>
        obtain ⟨rfl,rfl,hvo⟩:=hA8
        clear hvo
        have hvv:(valV ([]++B8) v).toArray= #[.int .i64 v.word, .pointer (ptrV B8 v)]:=rfl
        rw [hvv]
        clear hvv
        go_wp2_with fail
        have hsY:=(Step.refl (fun _=>False) W8 ρ8).alloc (.cells #[.int .i64 v.word, .pointer (ptrV B8 v)] 64)
        have HSY:=Hd.mk hsY
        have HBY:Hd (Blk (W8.alloc (.cells #[.int .i64 v.word, .pointer (ptrV B8 v)] 64)) W8.heap.size 64 [.int .i64 v.word, .pointer (ptrV B8 v)]):=⟨Blk.new' _ _ _⟩
        generalize W8.alloc (.cells #[.int .i64 v.word, .pointer (ptrV B8 v)] 64)=Wz at *
        obtain ⟨_,_,_,_,A5,c5,_,_,_,q6,q7,_,_,hout,_⟩:=(HR8.out.step hsY (fun _ _ h=>h)).form
        have HOUT:=Hd.mk hout
        have lRz:R<Wz.heap.size:=Nat.lt_of_lt_of_le HR8.out.lt hsY.size
        have HBP9:=Hd.mk (hsY.blk HBP8.out (fun t _ h=>h))
        have HBR10:=Hd.mk (hsY.blk HBR8.out (fun t _ h=>h))
        clear hsY hout
        refine wp_region_held_drew (S:=(fun wv=>∀ a:Addr,a.block<Wz.heap.size→wv.cell? a=Wz.cell? a)) (by kernel_rfl) ((fun _ _=>rfl)) (fun hHeld=>?_)
        refine tkP 0 ?_
        refine tkP 1 ?_
        refine tkP 2 ?_
        refine tkP 3 ?_
        refine tkP 4 ?_
        refine tkP 5 ?_
        refine tkP 6 ?_
        refine tkP 7 ?_
        refine tkP 8 ?_
        refine tkR 9 (fun K hK=>?_)
        go_simp
        try clear hHeld
        refine tkK hK (by first|exact fun _ _=>rfl|exact fun a h1=>World.cell?_alloc_lt _ _ _ h1|exact fun a h1=>(cellSetNe (Nat.ne_of_lt h1) 5 _).trans ((cellSetNe (Nat.ne_of_lt h1) 4 _).trans ((cellSetNe (Nat.ne_of_lt h1) 3 _).trans ((cellSetNe (Nat.ne_of_lt h1) 2 _).trans ((cellSetNe (Nat.ne_of_lt h1) 1 _).trans ((cellSetNe (Nat.ne_of_lt h1) 0 _).trans (World.cell?_alloc_lt _ _ _ h1))))))) (fun hHeld=>?_)
        clear hK K
        refine tkR 10 (fun K hK=>?_)
        go_simp
        try clear hHeld
        refine tkK hK (by first|exact fun _ _=>rfl|exact fun a h1=>World.cell?_alloc_lt _ _ _ h1|exact fun a h1=>(cellSetNe (Nat.ne_of_lt h1) 5 _).trans ((cellSetNe (Nat.ne_of_lt h1) 4 _).trans ((cellSetNe (Nat.ne_of_lt h1) 3 _).trans ((cellSetNe (Nat.ne_of_lt h1) 2 _).trans ((cellSetNe (Nat.ne_of_lt h1) 1 _).trans ((cellSetNe (Nat.ne_of_lt h1) 0 _).trans (World.cell?_alloc_lt _ _ _ h1))))))) (fun hHeld=>?_)
        clear hK K
        refine wpAnyH_done (by kernel_rfl) ?_ _
        try clear hHeld
        have hq:=((Step.refl (fun _=>False) Wz ρ8).alloc (.cells #[.int .i64 0, .slice A5 h'.outs.length c5, .int .i64 0, .string ⟨#[]⟩, .int .i64 0, .int .i64 h'.ticks] 34)).drew
        have hbZ:Blk (Wz.alloc (.cells #[.int .i64 0, .slice A5 h'.outs.length c5, .int .i64 0, .string ⟨#[]⟩, .int .i64 0, .int .i64 h'.ticks] 34)).drew Wz.heap.size 34 [.int .i64 0, .slice A5 h'.outs.length c5, .int .i64 0, .string ⟨#[]⟩, .int .i64 0, .int .i64 h'.ticks]:=Blk.new' _ _ _
        have hbY:=hq.blk HBY.out (fun t _ h=>h)
        have hbR:=hq.blk HBR10.out (fun t _ h=>h)
        have hbP:=hq.blk HBP9.out (fun t _ h=>h)
        have n1:¬w.heap.size+1=Wz.heap.size:=fun e=>by have:=HBR10.out.lt;omega
        have n2:¬W8.heap.size=Wz.heap.size:=fun e=>by have:=HBY.out.lt;omega
        have n3:¬w.heap.size=Wz.heap.size:=fun e=>by have:=HBP9.out.lt;omega
        have hnR:ρ8 (w.heap.size+1)=none:=(HG8.out _ HBR9.out.lt).trans HTP.out.2
        have HNR:=Hd.mk hnR
        have HSQ:=Hd.mk ((HS2.out.trans HS8.out).trans HSY.out)
        have HQ:=Hd.mk hq
        have HBZ:=Hd.mk hbZ
        have z0:(Wz.alloc (.cells #[.int .i64 0, .slice A5 h'.outs.length c5, .int .i64 0, .string ⟨#[]⟩, .int .i64 0, .int .i64 h'.ticks] 34)).drew.cell? ⟨Wz.heap.size,0,none⟩=some (.int .i64 0):=hbZ.cell (i:=0) rfl
        have z1:(Wz.alloc (.cells #[.int .i64 0, .slice A5 h'.outs.length c5, .int .i64 0, .string ⟨#[]⟩, .int .i64 0, .int .i64 h'.ticks] 34)).drew.cell? ⟨Wz.heap.size,1,none⟩=some (.slice A5 h'.outs.length c5):=hbZ.cell (i:=1) rfl
        have z2:(Wz.alloc (.cells #[.int .i64 0, .slice A5 h'.outs.length c5, .int .i64 0, .string ⟨#[]⟩, .int .i64 0, .int .i64 h'.ticks] 34)).drew.cell? ⟨Wz.heap.size,2,none⟩=some (.int .i64 0):=hbZ.cell (i:=2) rfl
        have z3:(Wz.alloc (.cells #[.int .i64 0, .slice A5 h'.outs.length c5, .int .i64 0, .string ⟨#[]⟩, .int .i64 0, .int .i64 h'.ticks] 34)).drew.cell? ⟨Wz.heap.size,3,none⟩=some (.string ⟨#[]⟩):=hbZ.cell (i:=3) rfl
        have z4:(Wz.alloc (.cells #[.int .i64 0, .slice A5 h'.outs.length c5, .int .i64 0, .string ⟨#[]⟩, .int .i64 0, .int .i64 h'.ticks] 34)).drew.cell? ⟨Wz.heap.size,4,none⟩=some (.int .i64 0):=hbZ.cell (i:=4) rfl
        have z5:(Wz.alloc (.cells #[.int .i64 0, .slice A5 h'.outs.length c5, .int .i64 0, .string ⟨#[]⟩, .int .i64 0, .int .i64 h'.ticks] 34)).drew.cell? ⟨Wz.heap.size,5,none⟩=some (.int .i64 h'.ticks):=hbZ.cell (i:=5) rfl
        have zf0:=hbZ.free 0
        have zf2:=hbZ.free 2
        have zf3:=hbZ.free 3
        have zf4:=hbZ.free 4
        have lZ:=hbZ.lt
        have y0:=hbY.cell (i:=0) rfl
        have lY:=hbY.lt
        have r0:=hbR.cell (i:=0) rfl
        have r1':=hbR.cell (i:=1) rfl
        have r2':=hbR.cell (i:=2) rfl
        have r3:=hbR.cell (i:=3) rfl
        have r4:=hbR.cell (i:=4) rfl
        have r5:=hbR.cell (i:=5) rfl
        have rf0:=hbR.free 0
        have rf1:=hbR.free 1
        have rf2:=hbR.free 2
        have rf3:=hbR.free 3
        have rf4:=hbR.free 4
        have rf5:=hbR.free 5
        have lRb:=hbR.lt
        skip
        clear hq hbZ hbY hbR hbP hnR q6 q7 lRz
        generalize (Wz.alloc (.cells #[.int .i64 0, .slice A5 h'.outs.length c5, .int .i64 0, .string ⟨#[]⟩, .int .i64 0, .int .i64 h'.ticks] 34)).drew=Wq at *
        have hre:r=⟨v.word,h'.outs,0,⟨#[]⟩,0,h'.ticks⟩:=(Option.some.inj HEND.out).symm
        subst hre
        go_wp2
        refine bodyPost_ret (results_cell1 rfl _ _ (w.heap.size+1) [.int .i64 v.word, .slice A5 h'.outs.length c5, .int .i64 0, .string ⟨#[]⟩, .int .i64 0, .int .i64 h'.ticks] rfl (run_fin (Nat.le_succ _) HSQ.out HNR.out HOUT.out HBR10.out rfl (HQ.out.setCell_new (a:=⟨Wz.heap.size,0,none⟩) (Nat.le_refl _) (.int .i64 v.word)).toBelow _ _ _ _ _ _).1 Try.underlying34 rfl) rfl ?_
        obtain ⟨_,hf1,hf2⟩:=run_fin (x0:= .int .i64 v.word) (x1:= .slice A5 h'.outs.length c5) (x2:= .int .i64 0) (x3:= .string ⟨#[]⟩) (x4:= .int .i64 0) (x5:= .int .i64 h'.ticks) (Nat.le_succ _) HSQ.out HNR.out HOUT.out HBR10.out rfl (HQ.out.setCell_new (a:=⟨Wz.heap.size,0,none⟩) (Nat.le_refl _) (.int .i64 v.word)).toBelow
        exact ⟨A5,c5,rfl,hf1,hf2⟩
       |error sg =>
        obtain ⟨Xg,rfl,rfl,hgt,hgb,_⟩:=hA8
        have HGB:=Hd.mk hgb
        clear hgt hgb
        go_wp2_with fail
        have hsY:=(Step.refl (fun _=>False) W8 ρ8).alloc (.cells #[.int .i64 0, .pointer none] 64)
        have HSY:=Hd.mk hsY
        have HBY:Hd (Blk (W8.alloc (.cells #[.int .i64 0, .pointer none] 64)) W8.heap.size 64 [.int .i64 0, .pointer none]):=⟨Blk.new' _ _ _⟩
        generalize W8.alloc (.cells #[.int .i64 0, .pointer none] 64)=Wz at *
        obtain ⟨_,_,_,_,A5,c5,_,_,_,q6,q7,_,_,hout,_⟩:=(HR8.out.step hsY (fun _ _ h=>h)).form
        have HOUT:=Hd.mk hout
        have lRz:R<Wz.heap.size:=Nat.lt_of_lt_of_le HR8.out.lt hsY.size
        have HBP9:=Hd.mk (hsY.blk HBP8.out (fun t _ h=>h))
        have HBR10:=Hd.mk (hsY.blk HBR8.out (fun t _ h=>h))
        clear hsY hout
        refine wp_region_held_drew (S:=(fun wv=>∀ a:Addr,a.block<Wz.heap.size→wv.cell? a=Wz.cell? a)) (by kernel_rfl) ((fun _ _=>rfl)) (fun hHeld=>?_)
        refine tkP 0 ?_
        refine tkP 1 ?_
        refine tkP 2 ?_
        refine tkP 3 ?_
        refine tkP 4 ?_
        refine tkP 5 ?_
        refine tkP 6 ?_
        refine tkP 7 ?_
        refine tkP 8 ?_
        refine tkR 9 (fun K hK=>?_)
        go_simp
        try clear hHeld
        refine tkK hK (by first|exact fun _ _=>rfl|exact fun a h1=>World.cell?_alloc_lt _ _ _ h1|exact fun a h1=>(cellSetNe (Nat.ne_of_lt h1) 5 _).trans ((cellSetNe (Nat.ne_of_lt h1) 4 _).trans ((cellSetNe (Nat.ne_of_lt h1) 3 _).trans ((cellSetNe (Nat.ne_of_lt h1) 2 _).trans ((cellSetNe (Nat.ne_of_lt h1) 1 _).trans ((cellSetNe (Nat.ne_of_lt h1) 0 _).trans (World.cell?_alloc_lt _ _ _ h1))))))) (fun hHeld=>?_)
        clear hK K
        refine tkR 10 (fun K hK=>?_)
        go_simp
        try clear hHeld
        refine tkK hK (by first|exact fun _ _=>rfl|exact fun a h1=>World.cell?_alloc_lt _ _ _ h1|exact fun a h1=>(cellSetNe (Nat.ne_of_lt h1) 5 _).trans ((cellSetNe (Nat.ne_of_lt h1) 4 _).trans ((cellSetNe (Nat.ne_of_lt h1) 3 _).trans ((cellSetNe (Nat.ne_of_lt h1) 2 _).trans ((cellSetNe (Nat.ne_of_lt h1) 1 _).trans ((cellSetNe (Nat.ne_of_lt h1) 0 _).trans (World.cell?_alloc_lt _ _ _ h1))))))) (fun hHeld=>?_)
        clear hK K
        refine wpAnyH_done (by kernel_rfl) ?_ _
        try clear hHeld
        have hq:=((Step.refl (fun _=>False) Wz ρ8).alloc (.cells #[.int .i64 0, .slice A5 h'.outs.length c5, .int .i64 0, .string ⟨#[]⟩, .int .i64 0, .int .i64 h'.ticks] 34)).drew
        have hbZ:Blk (Wz.alloc (.cells #[.int .i64 0, .slice A5 h'.outs.length c5, .int .i64 0, .string ⟨#[]⟩, .int .i64 0, .int .i64 h'.ticks] 34)).drew Wz.heap.size 34 [.int .i64 0, .slice A5 h'.outs.length c5, .int .i64 0, .string ⟨#[]⟩, .int .i64 0, .int .i64 h'.ticks]:=Blk.new' _ _ _
        have hbY:=hq.blk HBY.out (fun t _ h=>h)
        have hbR:=hq.blk HBR10.out (fun t _ h=>h)
        have hbP:=hq.blk HBP9.out (fun t _ h=>h)
        have n1:¬w.heap.size+1=Wz.heap.size:=fun e=>by have:=HBR10.out.lt;omega
        have n2:¬W8.heap.size=Wz.heap.size:=fun e=>by have:=HBY.out.lt;omega
        have n3:¬w.heap.size=Wz.heap.size:=fun e=>by have:=HBP9.out.lt;omega
        have hnR:ρ8 (w.heap.size+1)=none:=(HG8.out _ HBR9.out.lt).trans HTP.out.2
        have HNR:=Hd.mk hnR
        have HSQ:=Hd.mk ((HS2.out.trans HS8.out).trans HSY.out)
        have HQ:=Hd.mk hq
        have HBZ:=Hd.mk hbZ
        have z0:(Wz.alloc (.cells #[.int .i64 0, .slice A5 h'.outs.length c5, .int .i64 0, .string ⟨#[]⟩, .int .i64 0, .int .i64 h'.ticks] 34)).drew.cell? ⟨Wz.heap.size,0,none⟩=some (.int .i64 0):=hbZ.cell (i:=0) rfl
        have z1:(Wz.alloc (.cells #[.int .i64 0, .slice A5 h'.outs.length c5, .int .i64 0, .string ⟨#[]⟩, .int .i64 0, .int .i64 h'.ticks] 34)).drew.cell? ⟨Wz.heap.size,1,none⟩=some (.slice A5 h'.outs.length c5):=hbZ.cell (i:=1) rfl
        have z2:(Wz.alloc (.cells #[.int .i64 0, .slice A5 h'.outs.length c5, .int .i64 0, .string ⟨#[]⟩, .int .i64 0, .int .i64 h'.ticks] 34)).drew.cell? ⟨Wz.heap.size,2,none⟩=some (.int .i64 0):=hbZ.cell (i:=2) rfl
        have z3:(Wz.alloc (.cells #[.int .i64 0, .slice A5 h'.outs.length c5, .int .i64 0, .string ⟨#[]⟩, .int .i64 0, .int .i64 h'.ticks] 34)).drew.cell? ⟨Wz.heap.size,3,none⟩=some (.string ⟨#[]⟩):=hbZ.cell (i:=3) rfl
        have z4:(Wz.alloc (.cells #[.int .i64 0, .slice A5 h'.outs.length c5, .int .i64 0, .string ⟨#[]⟩, .int .i64 0, .int .i64 h'.ticks] 34)).drew.cell? ⟨Wz.heap.size,4,none⟩=some (.int .i64 0):=hbZ.cell (i:=4) rfl
        have z5:(Wz.alloc (.cells #[.int .i64 0, .slice A5 h'.outs.length c5, .int .i64 0, .string ⟨#[]⟩, .int .i64 0, .int .i64 h'.ticks] 34)).drew.cell? ⟨Wz.heap.size,5,none⟩=some (.int .i64 h'.ticks):=hbZ.cell (i:=5) rfl
        have zf0:=hbZ.free 0
        have zf2:=hbZ.free 2
        have zf3:=hbZ.free 3
        have zf4:=hbZ.free 4
        have lZ:=hbZ.lt
        have y0:=hbY.cell (i:=0) rfl
        have lY:=hbY.lt
        have r0:=hbR.cell (i:=0) rfl
        have r1':=hbR.cell (i:=1) rfl
        have r2':=hbR.cell (i:=2) rfl
        have r3:=hbR.cell (i:=3) rfl
        have r4:=hbR.cell (i:=4) rfl
        have r5:=hbR.cell (i:=5) rfl
        have rf0:=hbR.free 0
        have rf1:=hbR.free 1
        have rf2:=hbR.free 2
        have rf3:=hbR.free 3
        have rf4:=hbR.free 4
        have rf5:=hbR.free 5
        have lRb:=hbR.lt
        have xb:=hq.blk (HSY.out.blk HGB.out (fun t _ h=>h)) (fun t _ h=>h)
        have g0:=xb.cell (i:=0) rfl
        have g1:=xb.cell (i:=1) rfl
        have lX:=xb.lt
        have n4:¬Xg=Wz.heap.size:=fun e=>by have:=(HSY.out.blk HGB.out (fun t _ h=>h)).lt;omega
        have b1:=hbP.cell (i:=1) rfl
        have lP:=hbP.lt
        clear xb
        clear hq hbZ hbY hbR hbP hnR q6 q7 lRz
        generalize (Wz.alloc (.cells #[.int .i64 0, .slice A5 h'.outs.length c5, .int .i64 0, .string ⟨#[]⟩, .int .i64 0, .int .i64 h'.ticks] 34)).drew=Wq at *
        by_cases hneg:sg.code<0
        ·have hre:r=⟨0,h'.outs,2,⟨#[]⟩,0,h'.ticks⟩:=by
          have h:=HEND.out
          have h:(if sg.code<0 then _ else _)=some r:=h
          rw [if_pos hneg] at h
          exact (Option.some.inj h).symm
         subst hre
         go_wp2
         refine bodyPost_ret (results_cell1 rfl _ _ (w.heap.size+1) [.int .i64 0, .slice A5 h'.outs.length c5, .int .i64 2, .string ⟨#[]⟩, .int .i64 0, .int .i64 h'.ticks] rfl (run_fin (Nat.le_succ _) HSQ.out HNR.out HOUT.out HBR10.out rfl (HQ.out.setCell_new (a:=⟨Wz.heap.size,2,none⟩) (Nat.le_refl _) (.int .i64 2)).toBelow _ _ _ _ _ _).1 Try.underlying34 rfl) rfl ?_
         obtain ⟨_,hf1,hf2⟩:=run_fin (x0:= .int .i64 0) (x1:= .slice A5 h'.outs.length c5) (x2:= .int .i64 2) (x3:= .string ⟨#[]⟩) (x4:= .int .i64 0) (x5:= .int .i64 h'.ticks) (Nat.le_succ _) HSQ.out HNR.out HOUT.out HBR10.out rfl (HQ.out.setCell_new (a:=⟨Wz.heap.size,2,none⟩) (Nat.le_refl _) (.int .i64 2)).toBelow
         exact ⟨A5,c5,rfl,hf1,hf2⟩
        ·obtain ⟨scode,spay⟩:=sg
         have hneg:¬scode<0:=hneg
         obtain ⟨nm,hnm,hre⟩:∃ nm,atI p.exns scode=some nm∧r=⟨0,h'.outs,1,nm,spay,h'.ticks⟩:=by
          have h:=HEND.out
          have h:(if scode<0 then _ else _)=some r:=h
          rw [if_neg hneg] at h
          obtain ⟨nm,h1,h2⟩:=Option.map_eq_some_iff.1 h
          exact ⟨nm,h1,h2.symm⟩
         subst hre
         obtain ⟨ci,rfl,hci⟩:=atI_some hnm
         obtain ⟨_,_,hsf,_,_,_,hel⟩:=HT2.out.out
         cases hsf
         obtain ⟨eb,eo,cs,rfl,_,heb,hcl,⟨rfl,_⟩,hcs⟩:=hel ci nm hci
         have hsq:=HSQ.out.trans HQ.out
         have gx:Wq.cell? ⟨eb,eo+ci,none⟩=some (.string nm):=by
          have:=hsq.cell (a:=⟨eb,eo+ci*1+0,none⟩) heb rfl (hcs 0 _ rfl)
          rw [Nat.mul_one,Nat.add_zero] at this
          exact this
         have leb:eb<Wq.heap.size:=Nat.lt_of_lt_of_le heb hsq.size
         have n5:¬eb=Wz.heap.size:=fun e=>by have:=HSQ.out.size;omega
         have hcil:ci<p.exns.length:=(List.getElem?_eq_some_iff.1 hci).1
         have hci1:(ci:Int)<p.exns.length:=by omega
         have hci0:(0:Int)≤ci:=by omega
         have hneg2:¬((ci:Int)<0):=by omega
         clear hel hcl hcs hsq heb hnm hci hneg hcil
         go_wp2_with fail
         go_region_held3 (fun wv=>∀ a:Addr,¬a.block=Wz.heap.size→wv.cell? a=Wq.cell? a) (first|exact fun _ _=>rfl|exact fun a ha=>cellSetNe ha _ _|exact fun a ha=>(cellSetNe ha _ _).trans (cellSetNe ha _ _)|exact fun a ha=>(cellSetNe ha _ _).trans ((cellSetNe ha _ _).trans (cellSetNe ha _ _))) (fail)
         rename_i hHd
         clear hHd
         have bz:Blk ((((Wq.setCell ⟨Wz.heap.size,2,none⟩ (.int .i64 1)).setCell ⟨Wz.heap.size,3,none⟩ (.string nm)).setCell ⟨Wz.heap.size,4,none⟩ (.int .i64 spay)).drew) Wz.heap.size 34 [.int .i64 0, .slice A5 h'.outs.length c5, .int .i64 1, .string nm, .int .i64 spay, .int .i64 h'.ticks]:=(((HBZ.out.setCell 2 (.int .i64 1)).setCell 3 (.string nm)).setCell 4 (.int .i64 spay)).drew
         have br:Blk ((((Wq.setCell ⟨Wz.heap.size,2,none⟩ (.int .i64 1)).setCell ⟨Wz.heap.size,3,none⟩ (.string nm)).setCell ⟨Wz.heap.size,4,none⟩ (.int .i64 spay)).drew) (w.heap.size+1) 34 [.int .i64 0, .slice none 0 0, .int .i64 0, .string ⟨#[]⟩, .int .i64 0, .int .i64 0]:=((((HQ.out.blk HBR10.out (fun t _ h=>h)).setCell_ne _ n1).setCell_ne _ n1).setCell_ne _ n1).drew
         have hzz:Below Wz.heap.size Wz ((((Wq.setCell ⟨Wz.heap.size,2,none⟩ (.int .i64 1)).setCell ⟨Wz.heap.size,3,none⟩ (.string nm)).setCell ⟨Wz.heap.size,4,none⟩ (.int .i64 spay)).drew):=((((HQ.out.setCell_new (a:=⟨Wz.heap.size,2,none⟩) (Nat.le_refl _) (.int .i64 1)).setCell_new (a:=⟨Wz.heap.size,3,none⟩) (Nat.le_refl _) (.string nm)).setCell_new (a:=⟨Wz.heap.size,4,none⟩) (Nat.le_refl _) (.int .i64 spay)).drew).toBelow
         clear z0 z1 z2 z3 z4 z5 zf0 zf2 zf3 zf4 lZ y0 lY r0 r1' r2' r3 r4 r5 rf0 rf1 rf2 rf3 rf4 rf5 lRb g0 g1 gx b1 lP lX leb
         generalize (((Wq.setCell ⟨Wz.heap.size,2,none⟩ (.int .i64 1)).setCell ⟨Wz.heap.size,3,none⟩ (.string nm)).setCell ⟨Wz.heap.size,4,none⟩ (.int .i64 spay)).drew=Wx at *
         have z0:Wx.cell? ⟨Wz.heap.size,0,none⟩=some (.int .i64 0):=bz.cell (i:=0) rfl
         have z1:Wx.cell? ⟨Wz.heap.size,1,none⟩=some (.slice A5 h'.outs.length c5):=bz.cell (i:=1) rfl
         have z2:Wx.cell? ⟨Wz.heap.size,2,none⟩=some (.int .i64 1):=bz.cell (i:=2) rfl
         have z3:Wx.cell? ⟨Wz.heap.size,3,none⟩=some (.string nm):=bz.cell (i:=3) rfl
         have z4:Wx.cell? ⟨Wz.heap.size,4,none⟩=some (.int .i64 spay):=bz.cell (i:=4) rfl
         have z5:Wx.cell? ⟨Wz.heap.size,5,none⟩=some (.int .i64 h'.ticks):=bz.cell (i:=5) rfl
         have r0':Wx.cell? ⟨w.heap.size+1,0,none⟩=some (.int .i64 0):=br.cell (i:=0) rfl
         have rf0:=br.free 0
         have r1':Wx.cell? ⟨w.heap.size+1,1,none⟩=some (.slice none 0 0):=br.cell (i:=1) rfl
         have rf1:=br.free 1
         have r2':Wx.cell? ⟨w.heap.size+1,2,none⟩=some (.int .i64 0):=br.cell (i:=2) rfl
         have rf2:=br.free 2
         have r3':Wx.cell? ⟨w.heap.size+1,3,none⟩=some (.string ⟨#[]⟩):=br.cell (i:=3) rfl
         have rf3:=br.free 3
         have r4':Wx.cell? ⟨w.heap.size+1,4,none⟩=some (.int .i64 0):=br.cell (i:=4) rfl
         have rf4:=br.free 4
         have r5':Wx.cell? ⟨w.heap.size+1,5,none⟩=some (.int .i64 0):=br.cell (i:=5) rfl
         have rf5:=br.free 5
         have lZ:=bz.lt
         have lRb:=br.lt
         have HZZ:=Hd.mk hzz
         clear bz br hzz
         go_wp2
         refine bodyPost_ret (results_cell1 rfl _ _ (w.heap.size+1) [.int .i64 0, .slice A5 h'.outs.length c5, .int .i64 1, .string nm, .int .i64 spay, .int .i64 h'.ticks] rfl (run_fin (Nat.le_succ _) HSQ.out HNR.out HOUT.out HBR10.out rfl HZZ.out _ _ _ _ _ _).1 Try.underlying34 rfl) rfl ?_
         obtain ⟨_,hf1,hf2⟩:=run_fin (x0:= .int .i64 0) (x1:= .slice A5 h'.outs.length c5) (x2:= .int .i64 1) (x3:= .string nm) (x4:= .int .i64 spay) (x5:= .int .i64 h'.ticks) (Nat.le_succ _) HSQ.out HNR.out HOUT.out HBR10.out rfl HZZ.out
         exact ⟨A5,c5,rfl,hf1,hf2⟩
  ·have HR3:Hd (r=⟨0,[],3,⟨#[]⟩,0,0⟩):=⟨by
    have h:=HR.out
    rw [HRV.out,if_pos hage] at h
    exact (Option.some.inj h).symm⟩
   have hage2:¬((ag.length:Int)=f.params.length):=by omega
   go_wp2
   refine bodyPost_ret (results_cell1 rfl _ _ (w.heap.size+1) [.int .i64 0, .slice none 0 0, .int .i64 3, .string ⟨#[]⟩, .int .i64 0, .int .i64 0] rfl ((((((HB2'.out.setCell 0 _).setCell 1 _).setCell 2 _).setCell 3 _).setCell 4 _).setCell 5 _) Try.underlying34 rfl) rfl ?_
   have hs6:=(((((HS2.out.setCell_new (a:=⟨w.heap.size+1,0,none⟩) (Nat.le_succ _) (.int .i64 0)).setCell_new (a:=⟨w.heap.size+1,1,none⟩) (Nat.le_succ _) (.slice none 0 0)).setCell_new (a:=⟨w.heap.size+1,2,none⟩) (Nat.le_succ _) (.int .i64 3)).setCell_new (a:=⟨w.heap.size+1,3,none⟩) (Nat.le_succ _) (.string ⟨#[]⟩)).setCell_new (a:=⟨w.heap.size+1,4,none⟩) (Nat.le_succ _) (.int .i64 0)).setCell_new (a:=⟨w.heap.size+1,5,none⟩) (Nat.le_succ _) (.int .i64 0)
   rw [HR3.out]
   exact ⟨none,0,rfl,SlR.nil _ _ _ _ _,hs6.toBelow⟩
 ·have HR3:Hd (r=⟨0,[],3,⟨#[]⟩,0,0⟩):=⟨by
   have h:=HR.out
   unfold runP at h
   rw [HZ.out,if_pos hz0] at h
   exact (Option.some.inj h).symm⟩
  go_wp2
  refine bodyPost_ret (results_cell1 rfl _ _ (w.heap.size+1) [.int .i64 0, .slice none 0 0, .int .i64 3, .string ⟨#[]⟩, .int .i64 0, .int .i64 0] rfl ((((((HB2'.out.setCell 0 _).setCell 1 _).setCell 2 _).setCell 3 _).setCell 4 _).setCell 5 _) Try.underlying34 rfl) rfl ?_
  have hs6:=(((((HS2.out.setCell_new (a:=⟨w.heap.size+1,0,none⟩) (Nat.le_succ _) (.int .i64 0)).setCell_new (a:=⟨w.heap.size+1,1,none⟩) (Nat.le_succ _) (.slice none 0 0)).setCell_new (a:=⟨w.heap.size+1,2,none⟩) (Nat.le_succ _) (.int .i64 3)).setCell_new (a:=⟨w.heap.size+1,3,none⟩) (Nat.le_succ _) (.string ⟨#[]⟩)).setCell_new (a:=⟨w.heap.size+1,4,none⟩) (Nat.le_succ _) (.int .i64 0)).setCell_new (a:=⟨w.heap.size+1,5,none⟩) (Nat.le_succ _) (.int .i64 0)
  rw [HR3.out]
  exact ⟨none,0,rfl,SlR.nil _ _ _ _ _,hs6.toBelow⟩
end Go.Proofs.Ytadffbgbndibpaa
