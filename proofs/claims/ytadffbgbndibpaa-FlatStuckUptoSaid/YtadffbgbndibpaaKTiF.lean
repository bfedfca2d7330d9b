/- TiF: lemmas and walks of the claim. -/
import Derived.Test.YtadffbgbndibpaaKTiE
import Derived.Test.YtadffbgbndibpaaKFlN
set_option linter.unusedSectionVars false
set_option linter.unusedVariables false
set_option linter.unusedSimpArgs false
set_option maxHeartbeats 16000000
set_option maxRecDepth 100000
namespace Go.Proofs.Ytadffbgbndibpaa
open Go Go.RowKit
theorem szFs_body:∀ {l:List Fu} {f:Fu},f ∈ l→szB f.body≤szFs l
 |[],_,h=>by cases h
 |a :: l,f,h=>by
  rw [szFs]
  rcases List.mem_cons.1 h with rfl|h
  ·unfold szF
   omega
  ·have:=szFs_body h
   omega
theorem few_sz {p:Pg} (h:withinP p 512=true):szDs p.datas+szFs p.funs≤1000000∧∀ f,f ∈ p.funs→szB f.body≤512:=by
 have h1:=within_sz (most:=512) h
 refine ⟨by omega,fun f hf=>?_⟩
 have:=szFs_body hf
 omega
theorem runP_bad {p:Pg} (h:validP p≠0) (ag:List Int) (fuel:Int):runP p ag fuel=some ⟨0,[],3,⟨#[]⟩,0,0⟩:=by
 unfold runP
 rw [if_pos h]
section
variable (n:Nat) (w:World) (p:Pg) (v1 v2 v3:Value) (hR:PgR w NoG n p [v1,v2,v3, .int .i64 p.main])
include n w p v1 v2 v3 hR
theorem few_any:Calls Try.prog 5 #[.agg #[v1,v2,v3, .int .i64 p.main]] w fun e w'=>e= .returned (.bool (withinP p 512))∧Below w.heap.size w w':=by
 have HR:=Hd.mk hR
 obtain ⟨v1',v2',v3',hcs,_,hT1,hT2,hT3⟩:=hR
 simp only [List.cons.injEq,and_true,true_and] at hcs
 obtain ⟨rfl,rfl,rfl⟩:=hcs
 obtain ⟨A1,c1,rfl,_,_⟩:=SlR.form hT1
 obtain ⟨A2,c2,rfl,_,_⟩:=SlR.form hT2
 obtain ⟨A3,c3,rfl,_,_⟩:=SlR.form hT3
 clear hT1 hT2 hT3
 go_enter Try.func5,Try.ntmps5
 go_wp2_with fail
 have hs:=(Step.refl (fun _=>False) w NoG).alloc (.cells #[.slice A1 p.datas.length c1, .slice A2 p.exns.length c2, .slice A3 p.funs.length c3, .int .i64 p.main] 26)
 have HS:=Hd.mk hs
 clear hs
 refine (Within_any n _ NoG p _ _ _ 512 (HR.out.step HS.out) (by decide) (by decide)).mono ?_
 rintro e W1 ⟨rfl,hb⟩
 go_wp2
 go_ret
 exact ⟨rfl,(HS.out.of_below hb).toBelow⟩
theorem FlatStuck_any (Aa:Option Addr) (ca:Nat) (ag:List Int) (hag:SlR w NoG 1 8 IntR (.slice Aa ag.length ca) ag) (fuel:Int) (hfu:I64 fuel) :
 Calls Try.prog 4 #[.agg #[v1,v2,v3, .int .i64 p.main], .slice Aa ag.length ca, .int .i64 fuel] w fun e w'=>e= .returned (.bool true)∧Below w.heap.size w w':=by
 have HPG:=Hd.mk hR
 obtain ⟨v1',v2',v3',hcs,hmain,hT1,hT2,hT3⟩:=hR
 simp only [List.cons.injEq,and_true,true_and] at hcs
 obtain ⟨rfl,rfl,rfl⟩:=hcs
 have hT1:DatsR w NoG n v1 p.datas:=hT1
 have hT3:FusR w NoG n v3 p.funs:=hT3
 obtain ⟨A1,c1,rfl,hlc1,hcm1⟩:=SlR.form hT1
 obtain ⟨A2,c2,rfl,_,hcm2⟩:=SlR.form hT2
 obtain ⟨A3,c3,rfl,hlc3,hcm3⟩:=SlR.form hT3
 have HT3:=Hd.mk hT3
 have HAG:=Hd.mk hag
 have HFU:=Hd.mk hfu
 have HMA:=Hd.mk hmain
 have HS1:=Hd.mk ((Step.refl (fun _=>False) w NoG).alloc (.cells #[.slice A1 p.datas.length c1, .slice A2 p.exns.length c2, .slice A3 p.funs.length c3, .int .i64 p.main] 26))
 have HB1:Hd (Blk (w.alloc (.cells #[.slice A1 p.datas.length c1, .slice A2 p.exns.length c2, .slice A3 p.funs.length c3, .int .i64 p.main] 26)) w.heap.size 26 [.slice A1 p.datas.length c1, .slice A2 p.exns.length c2, .slice A3 p.funs.length c3, .int .i64 p.main]):=⟨Blk.new' _ _ _⟩
 clear hT1 hT2 hT3 hcm1 hlc1 hcm2 hlc3 hcm3 hmain hag hfu
 go_enter Try.func4,Try.ntmps4
 go_wp2_with fail
 generalize w.alloc (.cells #[.slice A1 p.datas.length c1, .slice A2 p.exns.length c2, .slice A3 p.funs.length c3, .int .i64 p.main] 26)=W at *
 have hcall:=few_any n W p _ _ _ (HPG.out.step HS1.out)
 obtain ⟨fw,hfw⟩:∃ z,withinP p 512=z:=⟨_,rfl⟩
 rw [hfw] at hcall
 have HFW:=Hd.mk hfw
 refine hcall.mono ?_
 clear hcall hfw
 rintro e W2 ⟨rfl,hb2⟩
 have HS2:=Hd.mk (HS1.out.of_below hb2)
 have HB2:=Hd.mk (HB1.out.of_heap (hb2.block _ HB1.out.lt))
 clear hb2
 cases fw with
 |false =>
  go_wp2_with fail
  refine (head_any W2).mono ?_
  rintro e W3 ⟨rfl,hb3⟩
  go_wp2
  go_ret
  exact ⟨rfl,(HS2.out.of_below hb3).toBelow⟩
 |true =>
  by_cases hal:(8:Int)<ag.length
  ·go_wp2_with fail
   refine (head_any W2).mono ?_
   rintro e W3 ⟨rfl,hb3⟩
   go_wp2
   go_ret
   exact ⟨rfl,(HS2.out.of_below hb3).toBelow⟩
  ·obtain ⟨hz1,hz2⟩:=few_sz HFW.out
   have HZ1:=Hd.mk hz1
   have HZ2:=Hd.mk hz2
   have HAL:Hd (ag.length≤1000):=⟨by omega⟩
   have b0:=HB2.out.cell (i:=0) rfl
   have b1:=HB2.out.cell (i:=1) rfl
   have b2:=HB2.out.cell (i:=2) rfl
   have b3:=HB2.out.cell (i:=3) rfl
   have l1:=HB2.out.lt
   clear hz1 hz2
   have HFM:Hd (I64 (min fuel 300)):=⟨by obtain ⟨h1,h2⟩:=HFU.out;exact ⟨by omega,by omega⟩⟩
   by_cases hz:validP p=0
   ·obtain ⟨mi,f,hmi,hfm⟩:=main_of hz
    obtain ⟨r,hr,hcase⟩:=stuck_law hz HZ2.out ag (min fuel 300) hmi hfm
    have HMI:=Hd.mk hmi
    have HFM2:=Hd.mk hfm
    clear hmi hfm
    have HZ:=Hd.mk hz
    clear hz
    go_wp2_with (refine wpList_min rfl _ _ _ _ rfl _ _ rfl rfl ?_)
    rcases hcase with ⟨hf,hne⟩|⟨hf,heq⟩
    ·have hnei:¬((ag.length:Int)=f.params.length):=by omega
     have HNE:=Hd.mk hnei
     clear hne hnei
     refine (Run_any n W2 p _ _ _ (HPG.out.step HS2.out) HZ1.out Aa ca ag (HAG.out.step HS2.out (fun _ _ _ h=>h)) HAL.out (min fuel 300) HFM.out r hr).mono ?_
     rintro e W3 ⟨A,c,rfl,_,hb3⟩
     rw [show (roCells r A c).toArray= #[.int .i64 r.answer, .slice A r.outs.length c, .int .i64 3, .string r.exn, .int .i64 r.payload, .int .i64 r.ticks] by unfold roCells;rw [hf]]
     have HS3:=Hd.mk (HS2.out.of_below hb3)
     have HB3:=Hd.mk (HB2.out.of_heap (hb3.block _ HB2.out.lt))
     clear hb3 b0 b1 b2 b3 l1
     have b0:=HB3.out.cell (i:=0) rfl
     have b1:=HB3.out.cell (i:=1) rfl
     have b2:=HB3.out.cell (i:=2) rfl
     have b3:=HB3.out.cell (i:=3) rfl
     have l1:=HB3.out.lt
     go_wp2_with fail
     have hs4:=HS3.out.alloc (.cells #[.int .i64 r.answer, .slice A r.outs.length c, .int .i64 3, .string r.exn, .int .i64 r.payload, .int .i64 r.ticks] 34)
     have hx:=Blk.new' W3 #[.int .i64 r.answer, .slice A r.outs.length c, .int .i64 3, .string r.exn, .int .i64 r.payload, .int .i64 r.ticks] 34
     have HB4:=Hd.mk (HB3.out.alloc (.cells #[.int .i64 r.answer, .slice A r.outs.length c, .int .i64 3, .string r.exn, .int .i64 r.payload, .int .i64 r.ticks] 34))
     have HS4:=Hd.mk hs4
     have HX:=Hd.mk hx
     clear hs4 hx b0 b1 b2 b3 l1
     generalize W3.alloc (.cells #[.int .i64 r.answer, .slice A r.outs.length c, .int .i64 3, .string r.exn, .int .i64 r.payload, .int .i64 r.ticks] 34)=W4 at *
     generalize W3.heap.size=X at *
     have hv:=Valid_any n W4 p _ _ _ (HPG.out.step HS4.out) HZ1.out
     rw [HZ.out] at hv
     refine hv.mono ?_
     clear hv
     rintro e W5 ⟨rfl,hb5⟩
     have hs5:=HS4.out.of_below hb5
     have hp:=HB4.out.of_heap (hb5.block _ HB4.out.lt)
     have hx:=HX.out.of_heap (hb5.block _ HX.out.lt)
     have b2:=hp.cell (i:=2) rfl
     have b3:=hp.cell (i:=3) rfl
     have l1:=hp.lt
     have x2:=hx.cell (i:=2) rfl
     have lx:=hx.lt
     have HS5:=Hd.mk hs5
     obtain ⟨fb,fo,e1,e2,vp,va0,r1,r2,vb,vs,rfl,hFV,hFC⟩:=FusR.elem (FusR.step HT3.out hs5) HFM2.out
     obtain ⟨P1,p1,rfl,_,_⟩:=SlR.form hFV.params
     have f7:W5.cell? ⟨fb,fo+mi*19+7,none⟩=some (.slice P1 f.params.length p1):=hFC 7 _ rfl
     have hml:mi<p.funs.length:=(List.getElem?_eq_some_iff.1 HFM2.out).1
     have hmi1:(mi:Int)<p.funs.length:=by omega
     have hmi0:(0:Int)≤mi:=by omega
     have hmi2:¬((p.funs.length:Int)≤mi):=by omega
     have hmi3:¬((mi:Int)<0):=by omega
     clear hFV hFC hml
     rw [HMI.out] at b3
     have hnei:=HNE.out
     clear hs5 hp hx hb5
     go_wp2_with fail
     refine (head_any W5).mono ?_
     rintro e W6 ⟨rfl,hb6⟩
     go_wp2
     go_ret
     exact ⟨by first|rfl|(show Ending.returned (.bool ((ag.length:Int) != f.params.length))=_;rw [show ((ag.length:Int) != f.params.length)=true by simpa using HNE.out]),(HS5.out.of_below hb6).toBelow⟩
    ·have HEQ:Hd ((ag.length:Int)=f.params.length):=⟨by omega⟩
     clear heq
     rcases hf with hf|hf|hf
     ·refine (Run_any n W2 p _ _ _ (HPG.out.step HS2.out) HZ1.out Aa ca ag (HAG.out.step HS2.out (fun _ _ _ h=>h)) HAL.out (min fuel 300) HFM.out r hr).mono ?_
      rintro e W3 ⟨A,c,rfl,_,hb3⟩
      rw [show (roCells r A c).toArray= #[.int .i64 r.answer, .slice A r.outs.length c, .int .i64 0, .string r.exn, .int .i64 r.payload, .int .i64 r.ticks] by unfold roCells;rw [hf]]
      have HS3:=Hd.mk (HS2.out.of_below hb3)
      have HB3:=Hd.mk (HB2.out.of_heap (hb3.block _ HB2.out.lt))
      clear hb3 b0 b1 b2 b3 l1
      have b0:=HB3.out.cell (i:=0) rfl
      have b1:=HB3.out.cell (i:=1) rfl
      have b2:=HB3.out.cell (i:=2) rfl
      have b3:=HB3.out.cell (i:=3) rfl
      have l1:=HB3.out.lt
      go_wp2_with fail
      have hs4:=HS3.out.alloc (.cells #[.int .i64 r.answer, .slice A r.outs.length c, .int .i64 0, .string r.exn, .int .i64 r.payload, .int .i64 r.ticks] 34)
      have hx:=Blk.new' W3 #[.int .i64 r.answer, .slice A r.outs.length c, .int .i64 0, .string r.exn, .int .i64 r.payload, .int .i64 r.ticks] 34
      have HB4:=Hd.mk (HB3.out.alloc (.cells #[.int .i64 r.answer, .slice A r.outs.length c, .int .i64 0, .string r.exn, .int .i64 r.payload, .int .i64 r.ticks] 34))
      have HS4:=Hd.mk hs4
      have HX:=Hd.mk hx
      clear hs4 hx b0 b1 b2 b3 l1
      generalize W3.alloc (.cells #[.int .i64 r.answer, .slice A r.outs.length c, .int .i64 0, .string r.exn, .int .i64 r.payload, .int .i64 r.ticks] 34)=W4 at *
      generalize W3.heap.size=X at *
      have hv:=Valid_any n W4 p _ _ _ (HPG.out.step HS4.out) HZ1.out
      rw [HZ.out] at hv
      refine hv.mono ?_
      clear hv
      rintro e W5 ⟨rfl,hb5⟩
      have hs5:=HS4.out.of_below hb5
      have hp:=HB4.out.of_heap (hb5.block _ HB4.out.lt)
      have hx:=HX.out.of_heap (hb5.block _ HX.out.lt)
      have b2:=hp.cell (i:=2) rfl
      have b3:=hp.cell (i:=3) rfl
      have l1:=hp.lt
      have x2:=hx.cell (i:=2) rfl
      have lx:=hx.lt
      have HS5:=Hd.mk hs5
      obtain ⟨fb,fo,e1,e2,vp,va0,r1,r2,vb,vs,rfl,hFV,hFC⟩:=FusR.elem (FusR.step HT3.out hs5) HFM2.out
      obtain ⟨P1,p1,rfl,_,_⟩:=SlR.form hFV.params
      have f7:W5.cell? ⟨fb,fo+mi*19+7,none⟩=some (.slice P1 f.params.length p1):=hFC 7 _ rfl
      have hml:mi<p.funs.length:=(List.getElem?_eq_some_iff.1 HFM2.out).1
      have hmi1:(mi:Int)<p.funs.length:=by omega
      have hmi0:(0:Int)≤mi:=by omega
      have hmi2:¬((p.funs.length:Int)≤mi):=by omega
      have hmi3:¬((mi:Int)<0):=by omega
      clear hFV hFC hml
      rw [HMI.out] at b3
      have heqi:=HEQ.out
      clear hs5 hp hx hb5
      go_wp2_with fail
      refine (head_any W5).mono ?_
      rintro e W6 ⟨rfl,hb6⟩
      go_wp2
      go_ret
      exact ⟨rfl,(HS5.out.of_below hb6).toBelow⟩
     ·refine (Run_any n W2 p _ _ _ (HPG.out.step HS2.out) HZ1.out Aa ca ag (HAG.out.step HS2.out (fun _ _ _ h=>h)) HAL.out (min fuel 300) HFM.out r hr).mono ?_
      rintro e W3 ⟨A,c,rfl,_,hb3⟩
      rw [show (roCells r A c).toArray= #[.int .i64 r.answer, .slice A r.outs.length c, .int .i64 1, .string r.exn, .int .i64 r.payload, .int .i64 r.ticks] by unfold roCells;rw [hf]]
      have HS3:=Hd.mk (HS2.out.of_below hb3)
      have HB3:=Hd.mk (HB2.out.of_heap (hb3.block _ HB2.out.lt))
      clear hb3 b0 b1 b2 b3 l1
      have b0:=HB3.out.cell (i:=0) rfl
      have b1:=HB3.out.cell (i:=1) rfl
      have b2:=HB3.out.cell (i:=2) rfl
      have b3:=HB3.out.cell (i:=3) rfl
      have l1:=HB3.out.lt
      go_wp2_with fail
      have hs4:=HS3.out.alloc (.cells #[.int .i64 r.answer, .slice A r.outs.length c, .int .i64 1, .string r.exn, .int .i64 r.payload, .int .i64 r.ticks] 34)
      have hx:=Blk.new' W3 #[.int .i64 r.answer, .slice A r.outs.length c, .int .i64 1, .string r.exn, .int .i64 r.payload, .int .i64 r.ticks] 34
      have HB4:=Hd.mk (HB3.out.alloc (.cells #[.int .i64 r.answer, .slice A r.outs.length c, .int .i64 1, .string r.exn, .int .i64 r.payload, .int .i64 r.ticks] 34))
      have HS4:=Hd.mk hs4
      have HX:=Hd.mk hx
      clear hs4 hx b0 b1 b2 b3 l1
      generalize W3.alloc (.cells #[.int .i64 r.answer, .slice A r.outs.length c, .int .i64 1, .string r.exn, .int .i64 r.payload, .int .i64 r.ticks] 34)=W4 at *
      generalize W3.heap.size=X at *
      have hv:=Valid_any n W4 p _ _ _ (HPG.out.step HS4.out) HZ1.out
      rw [HZ.out] at hv
      refine hv.mono ?_
      clear hv
      rintro e W5 ⟨rfl,hb5⟩
      have hs5:=HS4.out.of_below hb5
      have hp:=HB4.out.of_heap (hb5.block _ HB4.out.lt)
      have hx:=HX.out.of_heap (hb5.block _ HX.out.lt)
      have b2:=hp.cell (i:=2) rfl
      have b3:=hp.cell (i:=3) rfl
      have l1:=hp.lt
      have x2:=hx.cell (i:=2) rfl
      have lx:=hx.lt
      have HS5:=Hd.mk hs5
      obtain ⟨fb,fo,e1,e2,vp,va0,r1,r2,vb,vs,rfl,hFV,hFC⟩:=FusR.elem (FusR.step HT3.out hs5) HFM2.out
      obtain ⟨P1,p1,rfl,_,_⟩:=SlR.form hFV.params
      have f7:W5.cell? ⟨fb,fo+mi*19+7,none⟩=some (.slice P1 f.params.length p1):=hFC 7 _ rfl
      have hml:mi<p.funs.length:=(List.getElem?_eq_some_iff.1 HFM2.out).1
      have hmi1:(mi:Int)<p.funs.length:=by omega
      have hmi0:(0:Int)≤mi:=by omega
      have hmi2:¬((p.funs.length:Int)≤mi):=by omega
      have hmi3:¬((mi:Int)<0):=by omega
      clear hFV hFC hml
      rw [HMI.out] at b3
      have heqi:=HEQ.out
      clear hs5 hp hx hb5
      go_wp2_with fail
      refine (head_any W5).mono ?_
      rintro e W6 ⟨rfl,hb6⟩
      go_wp2
      go_ret
      exact ⟨rfl,(HS5.out.of_below hb6).toBelow⟩
     ·refine (Run_any n W2 p _ _ _ (HPG.out.step HS2.out) HZ1.out Aa ca ag (HAG.out.step HS2.out (fun _ _ _ h=>h)) HAL.out (min fuel 300) HFM.out r hr).mono ?_
      rintro e W3 ⟨A,c,rfl,_,hb3⟩
      rw [show (roCells r A c).toArray= #[.int .i64 r.answer, .slice A r.outs.length c, .int .i64 2, .string r.exn, .int .i64 r.payload, .int .i64 r.ticks] by unfold roCells;rw [hf]]
      have HS3:=Hd.mk (HS2.out.of_below hb3)
      have HB3:=Hd.mk (HB2.out.of_heap (hb3.block _ HB2.out.lt))
      clear hb3 b0 b1 b2 b3 l1
      have b0:=HB3.out.cell (i:=0) rfl
      have b1:=HB3.out.cell (i:=1) rfl
      have b2:=HB3.out.cell (i:=2) rfl
      have b3:=HB3.out.cell (i:=3) rfl
      have l1:=HB3.out.lt
      go_wp2_with fail
      have hs4:=HS3.out.alloc (.cells #[.int .i64 r.answer, .slice A r.outs.length c, .int .i64 2, .string r.exn, .int .i64 r.payload, .int .i64 r.ticks] 34)
      have hx:=Blk.new' W3 #[.int .i64 r.answer, .slice A r.outs.length c, .int .i64 2, .string r.exn, .int .i64 r.payload, .int .i64 r.ticks] 34
      have HB4:=Hd.mk (HB3.out.alloc (.cells #[.int .i64 r.answer, .slice A r.outs.length c, .int .i64 2, .string r.exn, .int .i64 r.payload, .int .i64 r.ticks] 34))
      have HS4:=Hd.mk hs4
      have HX:=Hd.mk hx
      clear hs4 hx b0 b1 b2 b3 l1
      generalize W3.alloc (.cells #[.int .i64 r.answer, .slice A r.outs.length c, .int .i64 2, .string r.exn, .int .i64 r.payload, .int .i64 r.ticks] 34)=W4 at *
      generalize W3.heap.size=X at *
      have hv:=Valid_any n W4 p _ _ _ (HPG.out.step HS4.out) HZ1.out
      rw [HZ.out] at hv
      refine hv.mono ?_
      clear hv
      rintro e W5 ⟨rfl,hb5⟩
      have hs5:=HS4.out.of_below hb5
      have hp:=HB4.out.of_heap (hb5.block _ HB4.out.lt)
      have hx:=HX.out.of_heap (hb5.block _ HX.out.lt)
      have b2:=hp.cell (i:=2) rfl
      have b3:=hp.cell (i:=3) rfl
      have l1:=hp.lt
      have x2:=hx.cell (i:=2) rfl
      have lx:=hx.lt
      have HS5:=Hd.mk hs5
      obtain ⟨fb,fo,e1,e2,vp,va0,r1,r2,vb,vs,rfl,hFV,hFC⟩:=FusR.elem (FusR.step HT3.out hs5) HFM2.out
      obtain ⟨P1,p1,rfl,_,_⟩:=SlR.form hFV.params
      have f7:W5.cell? ⟨fb,fo+mi*19+7,none⟩=some (.slice P1 f.params.length p1):=hFC 7 _ rfl
      have hml:mi<p.funs.length:=(List.getElem?_eq_some_iff.1 HFM2.out).1
      have hmi1:(mi:Int)<p.funs.length:=by omega
      have hmi0:(0:Int)≤mi:=by omega
      have hmi2:¬((p.funs.length:Int)≤mi):=by omega
      have hmi3:¬((mi:Int)<0):=by omega
      clear hFV hFC hml
      rw [HMI.out] at b3
      have heqi:=HEQ.out
      clear hs5 hp hx hb5
      go_wp2_with fail
      refine (head_any W5).mono ?_
      rintro e W6 ⟨rfl,hb6⟩
      go_wp2
      go_ret
      exact ⟨rfl,(HS5.out.of_below hb6).toBelow⟩
   ·have hr:=runP_bad hz ag (min fuel 300)
    obtain ⟨r,hre⟩:∃ r:RunOut,(⟨0,[],3,⟨#[]⟩,0,0⟩:RunOut)=r:=⟨_,rfl⟩
    have hf:r.fault=3:=by rw [←hre]
    rw [hre] at hr
    clear hre
    obtain ⟨z,hzz⟩:∃ z,validP p=z:=⟨_,rfl⟩
    rw [hzz] at hz
    have HZZ:=Hd.mk hzz
    clear hzz
    go_wp2_with (refine wpList_min rfl _ _ _ _ rfl _ _ rfl rfl ?_)
    refine (Run_any n W2 p _ _ _ (HPG.out.step HS2.out) HZ1.out Aa ca ag (HAG.out.step HS2.out (fun _ _ _ h=>h)) HAL.out (min fuel 300) HFM.out r hr).mono ?_
    rintro e W3 ⟨A,c,rfl,_,hb3⟩
    rw [show (roCells r A c).toArray= #[.int .i64 r.answer, .slice A r.outs.length c, .int .i64 3, .string r.exn, .int .i64 r.payload, .int .i64 r.ticks] by unfold roCells;rw [hf]]
    have HS3:=Hd.mk (HS2.out.of_below hb3)
    have HB3:=Hd.mk (HB2.out.of_heap (hb3.block _ HB2.out.lt))
    clear hb3 b0 b1 b2 b3 l1
    have b0:=HB3.out.cell (i:=0) rfl
    have b1:=HB3.out.cell (i:=1) rfl
    have b2:=HB3.out.cell (i:=2) rfl
    have b3:=HB3.out.cell (i:=3) rfl
    have l1:=HB3.out.lt
    go_wp2_with fail
    have hs4:=HS3.out.alloc (.cells #[.int .i64 r.answer, .slice A r.outs.length c, .int .i64 3, .string r.exn, .int .i64 r.payload, .int .i64 r.ticks] 34)
    have hx:=Blk.new' W3 #[.int .i64 r.answer, .slice A r.outs.length c, .int .i64 3, .string r.exn, .int .i64 r.payload, .int .i64 r.ticks] 34
    have HB4:=Hd.mk (HB3.out.alloc (.cells #[.int .i64 r.answer, .slice A r.outs.length c, .int .i64 3, .string r.exn, .int .i64 r.payload, .int .i64 r.ticks] 34))
    have HS4:=Hd.mk hs4
    have HX:=Hd.mk hx
    clear hs4 hx b0 b1 b2 b3 l1
    generalize W3.alloc (.cells #[.int .i64 r.answer, .slice A r.outs.length c, .int .i64 3, .string r.exn, .int .i64 r.payload, .int .i64 r.ticks] 34)=W4 at *
    generalize W3.heap.size=X at *
    have hv:=Valid_any n W4 p _ _ _ (HPG.out.step HS4.out) HZ1.out
    rw [HZZ.out] at hv
    refine hv.mono ?_
    clear hv
    rintro e W5 ⟨rfl,hb5⟩
    have hs5:=HS4.out.of_below hb5
    have hp:=HB4.out.of_heap (hb5.block _ HB4.out.lt)
    have hx:=HX.out.of_heap (hb5.block _ HX.out.lt)
    have b2:=hp.cell (i:=2) rfl
    have b3:=hp.cell (i:=3) rfl
    have l1:=hp.lt
    have x2:=hx.cell (i:=2) rfl
    have lx:=hx.lt
    have HS5:=Hd.mk hs5
    clear hs5 hp hx hb5
    go_wp2_with fail
    refine (head_any W5).mono ?_
    rintro e W6 ⟨rfl,hb6⟩
    go_wp2
    go_ret
    exact ⟨rfl,(HS5.out.of_below hb6).toBelow⟩
end
end Go.Proofs.Ytadffbgbndibpaa
