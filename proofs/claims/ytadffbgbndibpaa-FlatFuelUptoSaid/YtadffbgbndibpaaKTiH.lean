/- TiH: lemmas and walks of the claim. -/
import Derived.Test.YtadffbgbndibpaaKTiF
import Derived.Test.YtadffbgbndibpaaKTiG
set_option linter.unusedVariables false
set_option linter.unusedSimpArgs false
set_option maxHeartbeats 16000000
set_option maxRecDepth 100000
namespace Go.Proofs.Ytadffbgbndibpaa
open Go Go.RowKit
theorem FlatFuel_any (n:Nat) (w:World) (p:Pg) (v1 v2 v3:Value) (hR:PgR w NoG n p [v1,v2,v3, .int .i64 p.main]) (Aa:Option Addr) (ca:Nat) (ag:List Int) (hag:SlR w NoG 1 8 IntR (.slice Aa ag.length ca) ag) (f0 f1:Int) :
 Calls Try.prog 3 #[.agg #[v1,v2,v3, .int .i64 p.main], .slice Aa ag.length ca, .agg #[.int .i64 f0, .int .i64 f1]] w fun e w'=>e= .returned (.bool true)∧Below w.heap.size w w':=by
 have HPG:=Hd.mk hR
 obtain ⟨v1',v2',v3',hcs,hmain,hT1,hT2,hT3⟩:=hR
 simp only [List.cons.injEq,and_true,true_and] at hcs
 obtain ⟨rfl,rfl,rfl⟩:=hcs
 obtain ⟨A1,c1,rfl,_,_⟩:=SlR.form hT1
 obtain ⟨A2,c2,rfl,_,_⟩:=SlR.form hT2
 obtain ⟨A3,c3,rfl,_,_⟩:=SlR.form hT3
 have HAG:=Hd.mk hag
 have HS1:=Hd.mk (((Step.refl (fun _=>False) w NoG).alloc (.cells #[.slice A1 p.datas.length c1, .slice A2 p.exns.length c2, .slice A3 p.funs.length c3, .int .i64 p.main] 26)).alloc (.cells #[.int .i64 f0, .int .i64 f1] 28))
 have HB1:Hd (Blk ((w.alloc (.cells #[.slice A1 p.datas.length c1, .slice A2 p.exns.length c2, .slice A3 p.funs.length c3, .int .i64 p.main] 26)).alloc (.cells #[.int .i64 f0, .int .i64 f1] 28)) w.heap.size 26 [.slice A1 p.datas.length c1, .slice A2 p.exns.length c2, .slice A3 p.funs.length c3, .int .i64 p.main]):=⟨(Blk.new' _ _ _).alloc _⟩
 have hbf:=Blk.new' (w.alloc (.cells #[.slice A1 p.datas.length c1, .slice A2 p.exns.length c2, .slice A3 p.funs.length c3, .int .i64 p.main] 26)) #[.int .i64 f0, .int .i64 f1] 28
 rw [World.size_alloc] at hbf
 have HF1:=Hd.mk hbf
 clear hT1 hT2 hT3 hmain hag hbf
 go_enter Try.func3,Try.ntmps3
 go_wp2_with fail
 generalize (w.alloc (.cells #[.slice A1 p.datas.length c1, .slice A2 p.exns.length c2, .slice A3 p.funs.length c3, .int .i64 p.main] 26)).alloc (.cells #[.int .i64 f0, .int .i64 f1] 28)=W at *
 have hcall:=few_any n W p _ _ _ (HPG.out.step HS1.out)
 obtain ⟨fw,hfw⟩:∃ z,withinP p 512=z:=⟨_,rfl⟩
 rw [hfw] at hcall
 have HFW:=Hd.mk hfw
 refine hcall.mono ?_
 clear hcall hfw
 rintro e W2 ⟨rfl,hb2⟩
 have HS2:=Hd.mk (HS1.out.of_below hb2)
 have HB2:=Hd.mk (HB1.out.of_heap (hb2.block _ HB1.out.lt))
 have HF2:=Hd.mk (HF1.out.of_heap (hb2.block _ HF1.out.lt))
 clear hb2
 cases fw with
 |false =>
  go_wp2_with fail
  refine (head_any W2).mono ?_
  rintro e W3 ⟨rfl,hb3⟩
  go_wp2
  go_ret
  exact ⟨rfl,(HS2.out.of_below hb3).toBelow⟩
 |true =>
  by_cases hal:(8:Int)<ag.length
  ·go_wp2_with fail
   refine (head_any W2).mono ?_
   rintro e W3 ⟨rfl,hb3⟩
   go_wp2
   go_ret
   exact ⟨rfl,(HS2.out.of_below hb3).toBelow⟩
  ·obtain ⟨hz1,hz2⟩:=few_sz HFW.out
   have HZ1:=Hd.mk hz1
   have HZ2:=Hd.mk hz2
   have HAL:Hd (ag.length≤1000):=⟨by omega⟩
   have b0:=HB2.out.cell (i:=0) rfl
   have b1:=HB2.out.cell (i:=1) rfl
   have b2:=HB2.out.cell (i:=2) rfl
   have b3:=HB2.out.cell (i:=3) rfl
   have l1:=HB2.out.lt
   clear hz1 hz2
   go_wp2_with fail
   have hv:=Valid_any n W2 p _ _ _ (HPG.out.step HS2.out) HZ1.out
   obtain ⟨z,hz⟩:∃ z,validP p=z:=⟨_,rfl⟩
   rw [hz] at hv
   refine hv.mono ?_
   clear hv b0 b1 b2 b3 l1
   rintro e W3 ⟨rfl,hb3⟩
   have HS3:=Hd.mk (HS2.out.of_below hb3)
   have HB3:=Hd.mk (HB2.out.of_heap (hb3.block _ HB2.out.lt))
   have HF3:=Hd.mk (HF2.out.of_heap (hb3.block _ HF2.out.lt))
   have HZV:=Hd.mk hz
   clear hb3 hz
   by_cases hz0:z=0
   ·subst hz0
    have b0:=HB3.out.cell (i:=0) rfl
    have b1:=HB3.out.cell (i:=1) rfl
    have b2:=HB3.out.cell (i:=2) rfl
    have b3:=HB3.out.cell (i:=3) rfl
    have l1:=HB3.out.lt
    have y0:=HF3.out.cell (i:=0) rfl
    have y1:=HF3.out.cell (i:=1) rfl
    have ly:=HF3.out.lt
    obtain ⟨nn,hnn⟩:∃ z,min (max f0 0) 300=z:=⟨_,rfl⟩
    obtain ⟨mm,hmm⟩:∃ z,nn+min (max f1 0) 300=z:=⟨_,rfl⟩
    have HNM:Hd (0≤nn∧nn≤mm∧mm≤600):=⟨by omega,by omega,by omega⟩
    have hw:wrap64 (nn+min (max f1 0) 300)=mm:=by
     rw [hmm]
     unfold wrap64
     have:=HNM.out
     omega
    obtain ⟨a,b,ha,hb,hcase⟩:=fuel_law HZV.out HZ2.out ag nn mm HNM.out.1 HNM.out.2.1 (by have:=HNM.out;omega)
    go_wp2_with (first|(refine wpList_max rfl _ _ _ _ rfl _ _ rfl rfl ?_)|(refine wpList_min rfl _ _ _ _ rfl _ _ rfl rfl ?_))
    rcases hcase with ⟨hfa,htk,hba⟩|⟨hfa,htk,hpre⟩
    ·obtain rfl:a=b:=hba.symm
     have HRA:=Hd.mk ha
     have HRB:=Hd.mk hb
     (try rw [hmm])
     clear ha hb hw hnn hmm y0 y1 ly
     refine (Run_any n W3 p _ _ _ (HPG.out.step HS3.out) HZ1.out Aa ca ag (HAG.out.step HS3.out (fun _ _ _ h=>h)) HAL.out nn ⟨by have:=HNM.out;omega,by have:=HNM.out;omega⟩ a HRA.out).mono ?_
     rintro e W4 ⟨A,c,rfl,hO,hb4⟩
     rw [show (roCells a A c).toArray= #[.int .i64 a.answer, .slice A a.outs.length c, .int .i64 a.fault, .string a.exn, .int .i64 a.payload, .int .i64 a.ticks] by unfold roCells;rfl]
     have HS4:=Hd.mk (HS3.out.of_below hb4)
     have HB4:=Hd.mk (HB3.out.of_heap (hb4.block _ HB3.out.lt))
     have HO4:=Hd.mk hO
     clear hb4 hO b0 b1 b2 b3 l1
     have b0:=HB4.out.cell (i:=0) rfl
     have b1:=HB4.out.cell (i:=1) rfl
     have b2:=HB4.out.cell (i:=2) rfl
     have b3:=HB4.out.cell (i:=3) rfl
     have l1:=HB4.out.lt
     go_wp2_with fail
     have hs5:=(Step.refl (fun _=>False) W4 NoG).alloc (.cells #[.int .i64 a.answer, .slice A a.outs.length c, .int .i64 a.fault, .string a.exn, .int .i64 a.payload, .int .i64 a.ticks] 34)
     have hx:=Blk.new' W4 #[.int .i64 a.answer, .slice A a.outs.length c, .int .i64 a.fault, .string a.exn, .int .i64 a.payload, .int .i64 a.ticks] 34
     have HB5:=Hd.mk (HB4.out.alloc (.cells #[.int .i64 a.answer, .slice A a.outs.length c, .int .i64 a.fault, .string a.exn, .int .i64 a.payload, .int .i64 a.ticks] 34))
     have HS45:=Hd.mk hs5
     have HX5:=Hd.mk hx
     clear hs5 hx b0 b1 b2 b3 l1
     generalize W4.alloc (.cells #[.int .i64 a.answer, .slice A a.outs.length c, .int .i64 a.fault, .string a.exn, .int .i64 a.payload, .int .i64 a.ticks] 34)=W5 at *
     generalize W4.heap.size=X at *
     have HS5:=Hd.mk (HS4.out.trans HS45.out)
     refine (Run_any n W5 p _ _ _ (HPG.out.step HS5.out) HZ1.out Aa ca ag (HAG.out.step HS5.out (fun _ _ _ h=>h)) HAL.out mm ⟨by have:=HNM.out;omega,by have:=HNM.out;omega⟩ a HRB.out).mono ?_
     rintro e W6 ⟨B,d,rfl,hO,hb6⟩
     rw [show (roCells a B d).toArray= #[.int .i64 a.answer, .slice B a.outs.length d, .int .i64 a.fault, .string a.exn, .int .i64 a.payload, .int .i64 a.ticks] by unfold roCells;rfl]
     have HS6:=Hd.mk (HS5.out.of_below hb6)
     have HX6:=Hd.mk (HX5.out.of_heap (hb6.block _ HX5.out.lt))
     have HS46:=Hd.mk (HS45.out.of_below hb6)
     have HO6:=Hd.mk hO
     clear hb6 hO
     have lx:=HX6.out.lt
     have x0:=HX6.out.cell (i:=0) rfl
     have x1:=HX6.out.cell (i:=1) rfl
     have x2:=HX6.out.cell (i:=2) rfl
     have x3:=HX6.out.cell (i:=3) rfl
     have x4:=HX6.out.cell (i:=4) rfl
     have x5:=HX6.out.cell (i:=5) rfl
     go_wp2_with fail
     have hs7:=(Step.refl (fun _=>False) W6 NoG).alloc (.cells #[.int .i64 a.answer, .slice B a.outs.length d, .int .i64 a.fault, .string a.exn, .int .i64 a.payload, .int .i64 a.ticks] 34)
     have HS67:=Hd.mk hs7
     clear hs7
     generalize W6.alloc (.cells #[.int .i64 a.answer, .slice B a.outs.length d, .int .i64 a.fault, .string a.exn, .int .i64 a.payload, .int .i64 a.ticks] 34)=W7 at *
     refine (SameResult_same W7 a A B c d (HO4.out.step (HS46.out.trans HS67.out) (fun _ _ _ h=>h)) (HO6.out.step HS67.out (fun _ _ _ h=>h))).mono ?_
     rintro e W8 ⟨rfl,hb8⟩
     have HS8:=Hd.mk ((HS6.out.trans HS67.out).of_below hb8)
     clear hb8 x0 x1 x2 x3 x4 x5 lx
     go_wp2_with fail
     refine (head_any W8).mono ?_
     rintro e W9 ⟨rfl,hb9⟩
     go_wp2
     go_ret
     exact ⟨rfl,(HS8.out.of_below hb9).toBelow⟩
    ·have HTK:=Hd.mk htk
     clear htk
     have HRA:=Hd.mk ha
     have HRB:=Hd.mk hb
     (try rw [hmm])
     clear ha hb hw hnn hmm y0 y1 ly
     refine (Run_any n W3 p _ _ _ (HPG.out.step HS3.out) HZ1.out Aa ca ag (HAG.out.step HS3.out (fun _ _ _ h=>h)) HAL.out nn ⟨by have:=HNM.out;omega,by have:=HNM.out;omega⟩ a HRA.out).mono ?_
     rintro e W4 ⟨A,c,rfl,hO,hb4⟩
     rw [show (roCells a A c).toArray= #[.int .i64 a.answer, .slice A a.outs.length c, .int .i64 2, .string a.exn, .int .i64 a.payload, .int .i64 a.ticks] by unfold roCells;rw [hfa]]
     have HS4:=Hd.mk (HS3.out.of_below hb4)
     have HB4:=Hd.mk (HB3.out.of_heap (hb4.block _ HB3.out.lt))
     have HO4:=Hd.mk hO
     clear hb4 hO b0 b1 b2 b3 l1
     have b0:=HB4.out.cell (i:=0) rfl
     have b1:=HB4.out.cell (i:=1) rfl
     have b2:=HB4.out.cell (i:=2) rfl
     have b3:=HB4.out.cell (i:=3) rfl
     have l1:=HB4.out.lt
     go_wp2_with fail
     have hs5:=(Step.refl (fun _=>False) W4 NoG).alloc (.cells #[.int .i64 a.answer, .slice A a.outs.length c, .int .i64 2, .string a.exn, .int .i64 a.payload, .int .i64 a.ticks] 34)
     have hx:=Blk.new' W4 #[.int .i64 a.answer, .slice A a.outs.length c, .int .i64 2, .string a.exn, .int .i64 a.payload, .int .i64 a.ticks] 34
     have HB5:=Hd.mk (HB4.out.alloc (.cells #[.int .i64 a.answer, .slice A a.outs.length c, .int .i64 2, .string a.exn, .int .i64 a.payload, .int .i64 a.ticks] 34))
     have HS45:=Hd.mk hs5
     have HX5:=Hd.mk hx
     clear hs5 hx b0 b1 b2 b3 l1
     generalize W4.alloc (.cells #[.int .i64 a.answer, .slice A a.outs.length c, .int .i64 2, .string a.exn, .int .i64 a.payload, .int .i64 a.ticks] 34)=W5 at *
     generalize W4.heap.size=X at *
     have HS5:=Hd.mk (HS4.out.trans HS45.out)
     refine (Run_any n W5 p _ _ _ (HPG.out.step HS5.out) HZ1.out Aa ca ag (HAG.out.step HS5.out (fun _ _ _ h=>h)) HAL.out mm ⟨by have:=HNM.out;omega,by have:=HNM.out;omega⟩ b HRB.out).mono ?_
     rintro e W6 ⟨B,d,rfl,hO,hb6⟩
     rw [show (roCells b B d).toArray= #[.int .i64 b.answer, .slice B b.outs.length d, .int .i64 b.fault, .string b.exn, .int .i64 b.payload, .int .i64 b.ticks] by unfold roCells;rfl]
     have HS6:=Hd.mk (HS5.out.of_below hb6)
     have HX6:=Hd.mk (HX5.out.of_heap (hb6.block _ HX5.out.lt))
     have HS46:=Hd.mk (HS45.out.of_below hb6)
     have HO6:=Hd.mk hO
     clear hb6 hO
     have lx:=HX6.out.lt
     have x0:=HX6.out.cell (i:=0) rfl
     have x1:=HX6.out.cell (i:=1) rfl
     have x2:=HX6.out.cell (i:=2) rfl
     have x3:=HX6.out.cell (i:=3) rfl
     have x4:=HX6.out.cell (i:=4) rfl
     have x5:=HX6.out.cell (i:=5) rfl
     have hle:¬((b.outs.length:Int)<a.outs.length):=by have:=hpre.length_le;omega
     have htb:(a.ticks != nn)=false:=by simp [HTK.out]
     have HPRE:=Hd.mk hpre
     clear hpre
     go_wp2_with fail
     obtain ⟨_,_,hq,hl1,hl2⟩:=SlR.form HO6.out
     cases hq
     simp only [maxLen] at hl2
     have HL:Hd (a.outs.length≤9223372036854775807):=⟨by have:=HPRE.out.length_le;omega⟩
     clear hl1 hl2 x0 x1 x2 x3 x4 x5 lx htb hle hal hfa
     have hs7:=(Step.refl (fun _=>False) W6 NoG).alloc (.cells #[.int .i64 b.answer, .slice B b.outs.length d, .int .i64 b.fault, .string b.exn, .int .i64 b.payload, .int .i64 b.ticks] 34)
     have hy:=Blk.new' W6 #[.int .i64 b.answer, .slice B b.outs.length d, .int .i64 b.fault, .string b.exn, .int .i64 b.payload, .int .i64 b.ticks] 34
     have HX7:=Hd.mk (HX6.out.alloc (.cells #[.int .i64 b.answer, .slice B b.outs.length d, .int .i64 b.fault, .string b.exn, .int .i64 b.payload, .int .i64 b.ticks] 34))
     have HY7:=Hd.mk hy
     have HS67:=Hd.mk hs7
     clear hs7 hy
     generalize W6.alloc (.cells #[.int .i64 b.answer, .slice B b.outs.length d, .int .i64 b.fault, .string b.exn, .int .i64 b.payload, .int .i64 b.ticks] 34)=W7 at *
     generalize W6.heap.size=Y at *
     have hdd:decide (b.outs.length<a.outs.length)=false:=by have:=HPRE.out.length_le;simpa using this
     simp only [hdd]
     clear hdd
     go_loopw [11] (fun vk wr=>∃ k:Nat,vk= .int .i64 k∧k≤a.outs.length∧Step (fun _=>False) W7 NoG wr NoG) (fun v _=>a.outs.length-(intOf v).toNat)
     case atStart=>exact ⟨0,rfl,by omega,Step.refl _ _ _⟩
     case round =>
      obtain ⟨k,rfl,hk,hsk⟩:=hrel
      have x1:=hsk.blk HX7.out (fun t ht=>by cases ht)
      have x2:=hsk.blk HY7.out (fun t ht=>by cases ht)
      have f1:=x1.cell (i:=1) rfl
      have f2:=x2.cell (i:=1) rfl
      have l1:=x1.lt
      have l2:=x2.lt
      have HSK:=Hd.mk hsk
      by_cases hlt:k<a.outs.length
      ·have hlti:(k:Int)<a.outs.length:=by omega
       have hltb:k<b.outs.length:=by have:=HPRE.out.length_le;omega
       have hltbi:(k:Int)<b.outs.length:=by omega
       have hkz:(0:Int)≤k:=by omega
       have hxx:=List.getElem?_eq_getElem hlt
       generalize a.outs[k]=x at hxx
       have hyy:b.outs[k]? =some x:=by
        obtain ⟨t,ht⟩:=HPRE.out
        rw [←ht,List.getElem?_append_left hlt];exact hxx
       obtain ⟨g1,o1,cs1,rfl,_,rfl,hc1⟩:=SlR.get (HO4.out.step ((HS46.out.trans HS67.out).trans hsk) (fun _ _ _ h=>h)) hxx
       obtain ⟨g2,o2,cs2,rfl,_,rfl,hc2⟩:=SlR.get (HO6.out.step (HS67.out.trans hsk) (fun _ _ _ h=>h)) hyy
       have e1:wr.cell? ⟨g1,o1+k,none⟩=some (.int .i64 x):=by
        have:=hc1 0 _ rfl
        rw [Nat.mul_one,Nat.add_zero] at this
        exact this
       have e2:wr.cell? ⟨g2,o2+k,none⟩=some (.int .i64 x):=by
        have:=hc2 0 _ rfl
        rw [Nat.mul_one,Nat.add_zero] at this
        exact this
       clear hc1 hc2 hxx hyy x1 x2 hsk
       go_wp2
       go_quiet (fail)
       go_wp2
       go_roundw
       case rel =>
        have hw:=wrap_succ hlt HL.out
        exact ⟨k+1,by first|rw [hw]|exact congrArg _ hw|rfl,hlt,HSK.out.drewN nq⟩
       case measure=>first|exact measure_succ hlt HL.out|exact measure_plus hlt
      ·have hnlt:¬((k:Int)<a.outs.length):=by omega
       have HS8:=Hd.mk (HS6.out.trans (HS67.out.trans HSK.out))
       clear x1 x2 hsk hlt
       go_wp2_with fail
       refine (head_any wr).mono ?_
       rintro e W9 ⟨rfl,hb9⟩
       go_wp2
       go_ret
       exact ⟨rfl,(HS8.out.of_below hb9).toBelow⟩
   ·have hzb:(z != 0)=true:=by simpa using hz0
    go_wp2_with fail
    refine (head_any W3).mono ?_
    rintro e W4 ⟨rfl,hb4⟩
    go_wp2
    go_ret
    exact ⟨rfl,(HS3.out.of_below hb4).toBelow⟩
end Go.Proofs.Ytadffbgbndibpaa
