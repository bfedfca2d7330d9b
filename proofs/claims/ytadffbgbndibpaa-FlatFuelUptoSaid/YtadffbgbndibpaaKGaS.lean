/- GaS: lemmas and walks of the claim. -/
import Derived.Test.YtadffbgbndibpaaKGaK
import Derived.Test.YtadffbgbndibpaaKGaL
import Derived.Carry
set_option linter.unusedVariables false
set_option linter.unusedSimpArgs false
set_option maxHeartbeats 16000000
set_option maxRecDepth 100000
namespace Go.Proofs.Ytadffbgbndibpaa
open Go Go.RowKit
def NoG:Ghost:=fun _=>none
theorem NoG.fresh (w:World):Fresh w NoG:=fun _ _=>rfl
theorem NoG.only:OnlyCk NoG:=fun _ _ h=>by cases h
theorem wpList_buildV {P:Program} {ops:Array Oper} {rest:List Oper} {o:Oper} {a:Act} {w:World} {Q:Exit→Act→World→Prop} (hg:o.guard=none) (t:TypeId) (parts:Array (Nat × Operand)) (ho:o.op= .build t parts) (ps:List (Nat × Value)) (hp:(parts.map fun (i,x)=>(i,a.eval x)).toList=ps) (cells:Array Value) (hb:P.built t ps=some cells) (h:wpList P ops Q rest (a.put o.dst (.agg cells)) w):wpList P ops Q (o :: rest) a w :=
 wpList_build hg t parts ho (by rw [hp,hb];rfl) (by rw [hp,hb];exact h)
def ckHd (v1 v2 v3 v4:Value) (cs:List Value):List Value:=[v1,v2,v3,v4]++cs
def ckCells (v1 v2 v3 v4 m:Value) (cs:List Value):List Value:=ckHd v1 v2 v3 v4 cs++[.slice none 0 0,m, .bool false]
theorem ckBuilt19 (v1 v2 v3 v4 a0 a1 a2 a3 a4 a5 a6 a7 a8 a9 b0 b1 b2 b3 b4 b5 b6 b7 b8:Value) (mb:Nat) :
 Try.prog.built 55 [(0, .agg #[v1,v2,v3,v4]),(1, .agg #[a0,a1,a2,a3,a4,a5,a6,a7,a8,a9,b0,b1,b2,b3,b4,b5,b6,b7,b8]),(3, .map (some mb))]=some #[v1,v2,v3,v4,a0,a1,a2,a3,a4,a5,a6,a7,a8,a9,b0,b1,b2,b3,b4,b5,b6,b7,b8, .slice none 0 0, .map (some mb), .bool false]:=by kernel_rfl
theorem ckBuilt (v1 v2 v3 v4:Value) (mb:Nat) (cs:List Value) (h:cs.length=19) :
 Try.prog.built 55 [(0, .agg #[v1,v2,v3,v4]),(1, .agg cs.toArray),(3, .map (some mb))]=some (ckCells v1 v2 v3 v4 (.map (some mb)) cs).toArray:=by
 match cs,h with
 |[a0,a1,a2,a3,a4,a5,a6,a7,a8,a9,b0,b1,b2,b3,b4,b5,b6,b7,b8],_=>exact ckBuilt19 v1 v2 v3 v4 a0 a1 a2 a3 a4 a5 a6 a7 a8 a9 b0 b1 b2 b3 b4 b5 b6 b7 b8 mb
theorem Step.sealN {T:Tag→Prop} {w w2 w3:World} {ρ1 ρ':Ghost} (hs:Step (fun _=>False) w NoG w2 NoG) (h2:Step T w2 ρ1 w3 ρ') (hn:∀ b,b<w.heap.size→ρ1 b=none):Step (fun _=>False) w NoG w3 NoG where
 os:=h2.os.trans hs.os
 tape:=h2.tape.trans hs.tape
 output:=h2.output.trans hs.output
 size:=Nat.le_trans hs.size h2.size
 ghost:=fun _ _=>rfl
 block:=fun k hk _=>(h2.block k (Nat.lt_of_lt_of_le hk hs.size) (fun t ht=>by rw [hn k hk] at ht;cases ht)).trans (hs.block k hk (fun t ht=>by cases ht))
 fresh:=fun _ _ _=>rfl
theorem CS.Ok.empty (F:Ty→Prop):CS.Ok F ⟨[],[]⟩:=⟨by simp,by simp,by simp,by simp,by simp,by simp⟩
theorem CkR.made (F:Ty→Prop) (W:World) (v1 v2 v3 v4:Value) (cs:List Value) (h:cs.length=19) :
 CkR F ((W.alloc (.map #[] 0)).alloc (.cells (ckCells v1 v2 v3 v4 (.map (some W.heap.size)) cs).toArray 55)) ((NoG.put W.heap.size (31,2)).put (W.heap.size+1) (31,0)) (W.heap.size+1) (ckHd v1 v2 v3 v4 cs) W.heap.size ⟨[],[]⟩ false:=by
 have hz:(W.alloc (.map #[] 0)).heap.size=W.heap.size+1:=by simp
 have hm:=MapR.made W NoG
 have hs:=(Step.refl (fun _=>False) (W.alloc (.map #[] 0)) (NoG.put W.heap.size (31,2))).alloc_tag (.cells (ckCells v1 v2 v3 v4 (.map (some W.heap.size)) cs).toArray 55) (31,0)
 rw [hz] at hs
 exact ⟨⟨_,Blk.newAt hz _ _,OwnSl.nil _ _ _ _ _⟩,by simp [ckHd,h],Ghost.put_same _ _ _,hm.step hs (fun h=>h),CS.Ok.empty F⟩
theorem CkS.made {w:World} {ρ:Ghost} {p:Pg} {f:Fu} {nd:Nat} {A1 A2 A3:Option Addr} {c1 c2 c3:Nat} {e1 e2 vp va0 r1 r2 vb vs:Value} (h1:DatsR w ρ nd (.slice A1 p.datas.length c1) p.datas) (h3:FusR w ρ nd (.slice A3 p.funs.length c3) p.funs) :
 CkS w ρ p f.types nd (ckHd (.slice A1 p.datas.length c1) (.slice A2 p.exns.length c2) (.slice A3 p.funs.length c3) (.int .i64 p.main) (fuCells f e1 e2 vp va0 r1 r2 vb vs)) :=
 ⟨A1,c1,A2,c2,A3,c3,rfl,rfl,rfl,rfl,h1,h3⟩
theorem funsC_drop (p:Pg) {l:List Fu} {k:Nat} {f:Fu} (h:l[k]? =some f):funsC p (l.drop k)=match funC p f with
 |.ok _=>funsC p (l.drop (k+1))
 |.no=>40
 |.big=>1:=by
 rw [drop_cons h,funsC]
 rfl
theorem Valid_any (n:Nat) (w:World) (p:Pg) (v1 v2 v3:Value) (hR:PgR w NoG n p [v1,v2,v3, .int .i64 p.main]) (hsz:szDs p.datas+szFs p.funs≤1000000) :
 Calls Try.prog 6 #[.agg #[v1,v2,v3, .int .i64 p.main]] w fun e w'=>e= .returned (.int .i64 (validP p))∧Below w.heap.size w w':=by
 have HPG:=Hd.mk hR
 obtain ⟨v1',v2',v3',hcs,hmain,hT1,hT2,hT3⟩:=hR
 simp only [List.cons.injEq,and_true,true_and] at hcs
 obtain ⟨rfl,rfl,rfl⟩:=hcs
 have hT1:DatsR w NoG n v1 p.datas:=hT1
 have hT3:FusR w NoG n v3 p.funs:=hT3
 obtain ⟨A1,c1,rfl,hlc1,hcm1⟩:=SlR.form hT1
 obtain ⟨A2,c2,rfl,_,hcm2⟩:=SlR.form hT2
 obtain ⟨A3,c3,rfl,hlc3,hcm3⟩:=SlR.form hT3
 have hlen3:p.funs.length≤9223372036854775807:=by unfold maxLen at hcm3;omega
 have HT1:=Hd.mk hT1
 have HT3:=Hd.mk hT3
 have HSZ0:=Hd.mk hsz
 obtain ⟨r,hr⟩:∃ z,validP p=z:=⟨_,rfl⟩
 rw [hr]
 unfold validP at hr
 have HR:=Hd.mk hr
 have HS1:=Hd.mk ((Step.refl (fun _=>False) w NoG).alloc (.cells #[.slice A1 p.datas.length c1, .slice A2 p.exns.length c2, .slice A3 p.funs.length c3, .int .i64 p.main] 26))
 have HB1:Hd (Blk (w.alloc (.cells #[.slice A1 p.datas.length c1, .slice A2 p.exns.length c2, .slice A3 p.funs.length c3, .int .i64 p.main] 26)) w.heap.size 26 [.slice A1 p.datas.length c1, .slice A2 p.exns.length c2, .slice A3 p.funs.length c3, .int .i64 p.main]):=⟨Blk.new' _ _ _⟩
 clear hT1 hT2 hT3 hcm1 hlc1 hcm2 hlc3 hcm3 hr hmain hsz
 go_enter Try.func6,Try.ntmps6
 go_wp2_with fail
 generalize w.alloc (.cells #[.slice A1 p.datas.length c1, .slice A2 p.exns.length c2, .slice A3 p.funs.length c3, .int .i64 p.main] 26)=W at *
 have hbig:=big_any n W NoG p _ _ _ (HPG.out.step HS1.out) (NoG.fresh _) (fun _ _ h=>by cases h) HSZ0.out
 obtain ⟨bg,hbg⟩:∃ z,bigP p=z:=⟨_,rfl⟩
 rw [hbg] at hbig
 have HBG:=Hd.mk hbg
 have HCALL:=Hd.mk hbig
 clear hbig hbg
 refine HCALL.out.mono ?_
 rintro e W2 ⟨rfl,hb2⟩
 have HS12:Hd (Step (fun _=>False) W NoG W2 NoG):=⟨Step.ofBelow NoG hb2⟩
 have HS2:=Hd.mk (HS1.out.trans HS12.out)
 clear hb2 HCALL
 cases bg with
 |true =>
  have hrr:r=1:=by rw [←HR.out,HBG.out];rfl
  subst hrr
  go_wp2
  go_ret
  exact ⟨rfl,HS2.out.toBelow⟩
 |false =>
  have hb1:=HS12.out.blk HB1.out (fun t ht=>by cases ht)
  have b0:W2.cell? ⟨w.heap.size,0,none⟩=some (.slice A1 p.datas.length c1):=hb1.cell (i:=0) rfl
  have b1:W2.cell? ⟨w.heap.size,1,none⟩=some (.slice A2 p.exns.length c2):=hb1.cell (i:=1) rfl
  have b2:W2.cell? ⟨w.heap.size,2,none⟩=some (.slice A3 p.funs.length c3):=hb1.cell (i:=2) rfl
  have b3:W2.cell? ⟨w.heap.size,3,none⟩=some (.int .i64 p.main):=hb1.cell (i:=3) rfl
  have l1:=hb1.lt
  have hhd:=heads_any n W2 NoG p _ _ _ (HPG.out.step HS2.out) (NoG.fresh _)
  obtain ⟨ok,hok⟩:∃ z,headsOk p=z:=⟨_,rfl⟩
  rw [hok] at hhd
  have HOK:=Hd.mk hok
  have HCALL:=Hd.mk hhd
  clear hb1 hhd hok
  go_wp2_with fail
  refine HCALL.out.mono ?_
  rintro e W3 ⟨rfl,hb3⟩
  have HS13:Hd (Step (fun _=>False) W NoG W3 NoG):=⟨HS12.out.trans (Step.ofBelow NoG hb3)⟩
  have HS3:=Hd.mk (HS1.out.trans HS13.out)
  clear hb3 HCALL b0 b1 b2 b3 l1
  cases ok with
  |false =>
   have hrr:r=40:=by rw [←HR.out,HBG.out,HOK.out];rfl
   subst hrr
   go_wp2
   go_ret
   exact ⟨rfl,HS3.out.toBelow⟩
  |true =>
   have HRF:Hd (funsC p p.funs=r):=⟨by rw [←HR.out,HBG.out,HOK.out];rfl⟩
   have HHP:=Hd.mk (hdP_of HOK.out)
   have hb1:=HS13.out.blk HB1.out (fun t ht=>by cases ht)
   have b2:W3.cell? ⟨w.heap.size,2,none⟩=some (.slice A3 p.funs.length c3):=hb1.cell (i:=2) rfl
   have l1:=hb1.lt
   clear hb1
   go_wp2_with fail
   clear b2 l1
   go_loopw [14] (fun vk wr=>∃ k:Nat,vk= .int .i64 k∧k≤p.funs.length∧funsC p p.funs=funsC p (p.funs.drop k)∧Step (fun _=>False) W NoG wr NoG) (fun v _=>p.funs.length-(intOf v).toNat)
   case atStart=>exact ⟨0,by simp,by omega,by simp,HS13.out⟩
   case round =>
    obtain ⟨k,rfl,hk,he,hS⟩:=hrel
    have HE:=Hd.mk he
    have HSk:=Hd.mk hS
    have HSl:=Hd.mk (HS1.out.trans hS)
    clear he hS
    obtain ⟨Wl,rfl⟩:∃ W,W=wr:=⟨_,rfl⟩
    by_cases hlt:k<p.funs.length
    ·have hlti:(k:Int)<p.funs.length:=by omega
     have hk0:(0:Int)≤k:=by omega
     obtain ⟨bF,oF,e1',e2',vp,va0,r1,r2,vb,vs,hFA,hV,hcf⟩:=(HT3.out.step HSl.out).elem (List.getElem?_eq_getElem hlt)
     subst hFA
     have hdr:=funsC_drop p (List.getElem?_eq_getElem hlt)
     have hfm:p.funs[k] ∈ p.funs:=List.getElem_mem hlt
     generalize p.funs[k]=f at *
     have HE2:=Hd.mk (HE.out.trans hdr)
     have HFP:=Hd.mk ((HHP.out.funs f hfm).1)
     obtain ⟨_,_,_,_,_,hty,_,_,_,_,hy0,hy1,hy2⟩:=TyR.shape hV.result
     simp only [List.cons.injEq,and_true,true_and] at hty
     obtain ⟨rfl,rfl,rfl⟩:=hty
     obtain ⟨_,_,_,_,hbd,_,_,hy5,hy6⟩:=BkR.shape hV.body
     simp only [List.cons.injEq,and_true,true_and] at hbd
     obtain ⟨rfl,rfl⟩:=hbd
     have hy3:=hV.t1
     have hy4:=hV.t2
     have hy7:=hV.params
     obtain ⟨a0,k0,rfl,hl0,hm0⟩:=SlR.form hy3
     obtain ⟨a1,k1,rfl,hl1,hm1⟩:=SlR.form hy4
     obtain ⟨a2,k2,rfl,hl2,hm2⟩:=SlR.form hy7
     obtain ⟨a3,k3,rfl,hl3,hm3⟩:=SlR.form hy0
     obtain ⟨a4,k4,rfl,hl4,hm4⟩:=SlR.form hy1
     obtain ⟨a5,k5,rfl,hl5,hm5⟩:=SlR.form hy2
     obtain ⟨a6,k6,rfl,hl6,hm6⟩:=SlR.form hy5
     obtain ⟨a7,k7,rfl,hl7,hm7⟩:=SlR.form hy6
     clear hy0 hy1 hy2 hy3 hy4 hy5 hy6 hy7 hl0 hm0 hl1 hm1 hl2 hm2 hl3 hm3 hl4 hm4 hl5 hm5 hl6 hm6 hl7 hm7
     have HFV:=Hd.mk hV
     have lF:bF<Wl.heap.size:=World.block_lt_of_cell? Wl ⟨bF,_,none⟩ (hcf 0 _ rfl)
     clear hdr hV HE hfm
     have hin:(Try.prog.info? 48).map (·.size)=some 19:=by kernel_rfl
     generalize hcs:fuCells f _ _ _ _ _ _ _ _=cs at hcf
     have hcl:cs.length=19:=by rw [←hcs];rfl
     have hone:cs.toArray.all (·.oneCell')=true:=by rw [←hcs];exact fuCells_one ..
     have hin2:(Try.prog.info? 48).map (·.size)=some cs.length:=by rw [hcl];exact hin
     have HSZ:Hd (cs.toArray.size=19):=⟨by rw [List.size_toArray,hcl]⟩
     have HCC:Hd (Wl.rangeAt bF (oF+k*19) cs):=⟨hcf⟩
     have HIN:=Hd.mk hin2
     have HON:=Hd.mk hone
     have HAf:=Hd.mk ((Step.refl (fun _=>False) Wl NoG).alloc (.cells cs.toArray 48))
     have XS0:=Hd.mk (Blk.new' Wl cs.toArray 48)
     have HCS:=Hd.mk hcs
     clear hcf hin hone hcs hin2 hcl
     go_wp2_with (first|(refine wpList_load_mid rfl 48 _ rfl bF (oF+k*19) rfl cs _ HCC.out Try.underlying48 rfl HIN.out ?_)|(refine wpList_store_newV rfl 48 _ _ rfl _ cs.toArray rfl rfl (by rw [List.size_toArray];exact HIN.out) (by exact (Eq.trans rfl HSZ.out.symm)) HON.out ?_))
     refine ⟨?_⟩
     generalize Wl.alloc (.cells cs.toArray 48)=W6 at *
     generalize Wl.heap.size=X8 at *
     have xs0:Blk W6 X8 48 cs:=XS0.out
     rw [←HCS.out] at xs0
     have XSf:=Hd.mk xs0
     clear xs0 XS0 HCS HON HIN HCC HSZ
     clear lF
     have hb1:=(HSk.out.trans HAf.out).blk HB1.out (fun t ht=>by cases ht)
     have b0:W6.cell? ⟨w.heap.size,0,none⟩=some (.slice A1 p.datas.length c1):=hb1.cell (i:=0) rfl
     have b1:W6.cell? ⟨w.heap.size,1,none⟩=some (.slice A2 p.exns.length c2):=hb1.cell (i:=1) rfl
     have b2:W6.cell? ⟨w.heap.size,2,none⟩=some (.slice (some ⟨bF,oF,none⟩) p.funs.length c3):=hb1.cell (i:=2) rfl
     have b3:W6.cell? ⟨w.heap.size,3,none⟩=some (.int .i64 p.main):=hb1.cell (i:=3) rfl
     have l1:=hb1.lt
     have hcl:(fuCells f (.slice a0 f.touch.regs.length k0) (.slice a1 f.touch.vars.length k1) (.slice a2 f.params.length k2) (.slice a3 f.result.args.length k3) (.slice a4 f.result.eff.regs.length k4) (.slice a5 f.result.eff.vars.length k5) (.slice a6 f.body.bind.length k6) (.slice a7 f.body.steps.length k7)).length=19:=rfl
     have XS6:=XSf
     have HFC:Hd (∀ j v,(fuCells f (.slice a0 f.touch.regs.length k0) (.slice a1 f.touch.vars.length k1) (.slice a2 f.params.length k2) (.slice a3 f.result.args.length k3) (.slice a4 f.result.eff.regs.length k4) (.slice a5 f.result.eff.vars.length k5) (.slice a6 f.body.bind.length k6) (.slice a7 f.body.steps.length k7))[j]? =some v→(ckHd (.slice A1 p.datas.length c1) (.slice A2 p.exns.length c2) (.slice (some ⟨bF,oF,none⟩) p.funs.length c3) (.int .i64 p.main) (fuCells f (.slice a0 f.touch.regs.length k0) (.slice a1 f.touch.vars.length k1) (.slice a2 f.params.length k2) (.slice a3 f.result.args.length k3) (.slice a4 f.result.eff.regs.length k4) (.slice a5 f.result.eff.vars.length k5) (.slice a6 f.body.bind.length k6) (.slice a7 f.body.steps.length k7)))[4+j]? =some v):=⟨fun j v h=>by unfold ckHd;rw [List.getElem?_append_right (by simp)];simpa using h⟩
     have HCKS:Hd (∀ W' ρ',DatsR W' ρ' n (.slice A1 p.datas.length c1) p.datas→FusR W' ρ' n (.slice (some ⟨bF,oF,none⟩) p.funs.length c3) p.funs→CkS W' ρ' p f.types n (ckHd (.slice A1 p.datas.length c1) (.slice A2 p.exns.length c2) (.slice (some ⟨bF,oF,none⟩) p.funs.length c3) (.int .i64 p.main) (fuCells f (.slice a0 f.touch.regs.length k0) (.slice a1 f.touch.vars.length k1) (.slice a2 f.params.length k2) (.slice a3 f.result.args.length k3) (.slice a4 f.result.eff.regs.length k4) (.slice a5 f.result.eff.vars.length k5) (.slice a6 f.body.bind.length k6) (.slice a7 f.body.steps.length k7)))):=⟨fun W' ρ' h1 h3=>CkS.made h1 h3⟩
     have hone:(fuCells f (.slice a0 f.touch.regs.length k0) (.slice a1 f.touch.vars.length k1) (.slice a2 f.params.length k2) (.slice a3 f.result.args.length k3) (.slice a4 f.result.eff.regs.length k4) (.slice a5 f.result.eff.vars.length k5) (.slice a6 f.body.bind.length k6) (.slice a7 f.body.steps.length k7)).toArray.all (·.oneCell')=true:=fuCells_one ..
     generalize hcs:fuCells f (.slice a0 f.touch.regs.length k0) (.slice a1 f.touch.vars.length k1) (.slice a2 f.params.length k2) (.slice a3 f.result.args.length k3) (.slice a4 f.result.eff.regs.length k4) (.slice a5 f.result.eff.vars.length k5) (.slice a6 f.body.bind.length k6) (.slice a7 f.body.steps.length k7)=cs at hcl hone XS6 HFC HCKS
     have HCSE:=Hd.mk hcs
     have HCC8:Hd (W6.rangeAt X8 0 cs):=⟨fun j u hj=>by rw [Nat.zero_add];exact XS6.out.cell hj⟩
     have HIN8:Hd ((Try.prog.info? 48).map (·.size)=some cs.length):=⟨by rw [hcl];kernel_rfl⟩
     have HCL:=Hd.mk hcl
     have HONE:=Hd.mk hone
     have HBT:=Hd.mk (ckBuilt (.slice A1 p.datas.length c1) (.slice A2 p.exns.length c2) (.slice (some ⟨bF,oF,none⟩) p.funs.length c3) (.int .i64 p.main) W6.heap.size cs hcl)
     generalize hL:ckCells (.slice A1 p.datas.length c1) (.slice A2 p.exns.length c2) (.slice (some ⟨bF,oF,none⟩) p.funs.length c3) (.int .i64 p.main) (.map (some W6.heap.size)) cs=L at HBT
     have HL:=Hd.mk hL
     have HLN:Hd (L.length=26):=⟨by rw [←hL];unfold ckCells ckHd;simp [hcl]⟩
     have HLO:Hd (L.toArray.all (·.oneCell')=true):=⟨by
      rw [←hL]
      unfold ckCells ckHd
      simp only [List.all_toArray,List.all_append] at hone ⊢
      rw [hone]
      rfl⟩
     clear hcs hcl hone hL hb1
     have HSZ26:Hd (L.toArray.size=26):=⟨by rw [List.size_toArray,HLN.out]⟩
     have hmm:= @run_makeMap Try.prog
     go_wp2_with (first|(refine wpList_load_mid rfl 48 _ rfl X8 0 rfl cs _ HCC8.out Try.underlying48 rfl HIN8.out ?_)|(refine wpList_buildV rfl 55 _ rfl _ (by simp only [List.map_toArray,List.map_cons,List.map_nil];rfl) L.toArray HBT.out ?_)|(refine wpList_store_newV rfl 55 _ _ rfl _ L.toArray (by rw [size_alloc];rfl) rfl (by rw [HSZ26.out];kernel_rfl) (by rw [HSZ26.out];rfl) HLO.out ?_))
     refine ⟨?_⟩
     clear hmm
     have hck:=CkR.made (fun t=>formed1 p.datas f.types t=true) W6 (.slice A1 p.datas.length c1) (.slice A2 p.exns.length c2) (.slice (some ⟨bF,oF,none⟩) p.funs.length c3) (.int .i64 p.main) cs HCL.out
     rw [HL.out] at hck
     have hz9:(W6.alloc (.map #[] 0)).heap.size=W6.heap.size+1:=by simp
     have hsa:=((Step.refl (fun _=>False) W6 NoG).alloc_tag (.map #[] 0) (31,2))
     have hsb:=hsa.alloc_tag (.cells L.toArray 55) (31,0)
     rw [hz9] at hsb
     have hn6:∀ b,b<W6.heap.size→((NoG.put W6.heap.size (31,2)).put (W6.heap.size+1) (31,0)) b=none:=fun b hb=>by
      rw [Ghost.put_ne _ _ (by omega),Ghost.put_ne _ _ (by omega)]
      rfl
     have hpo:OnlyCk ((NoG.put W6.heap.size (31,2)).put (W6.heap.size+1) (31,0)):=(NoG.only.put _ (by decide) (by decide)).put _ (by decide) (by decide)
     generalize (NoG.put W6.heap.size (31,2)).put (W6.heap.size+1) (31,0)=ρc at hck hsb hn6 hpo
     generalize (W6.alloc (.map #[] 0)).alloc (.cells L.toArray 55)=Wc at hck hsb ⊢
     generalize hdd:ckHd (.slice A1 p.datas.length c1) (.slice A2 p.exns.length c2) (.slice (some ⟨bF,oF,none⟩) p.funs.length c3) (.int .i64 p.main) cs=hd at hck HFC HCKS
     have hs6c:=HAf.out
     have hV8:=(HFV.out.step hs6c).step hsb
     have hT1c:=((HT1.out.step HSl.out).step hs6c).step hsb
     have hT3c:=((HT3.out.step HSl.out).step hs6c).step hsb
     have hcfl:∀ j v,(fuCells f (.slice a0 f.touch.regs.length k0) (.slice a1 f.touch.vars.length k1) (.slice a2 f.params.length k2) (.slice a3 f.result.args.length k3) (.slice a4 f.result.eff.regs.length k4) (.slice a5 f.result.eff.vars.length k5) (.slice a6 f.body.bind.length k6) (.slice a7 f.body.steps.length k7))[j]? =some v→hd[4+j]? =some v:=by rw [HCSE.out];exact HFC.out
     have hcall:=function_any p f n n ⟨block_any p f.types n HFV.out.i2 HHP.out⟩ Wc ρc (W6.heap.size+1) hd W6.heap.size a0 a1 a2 a3 a4 a5 a6 a7 k0 k1 k2 k3 k4 k5 k6 k7 hck (HCKS.out _ _ hT1c hT3c) hV8 hcfl HFP.out (hsb.fresh (NoG.fresh _)) hpo
     obtain ⟨rf,hrf⟩:∃ z,funC p f=z:=⟨_,rfl⟩
     rw [hrf] at hcall
     have HRF1:=Hd.mk hrf
     have HCALL:=Hd.mk hcall
     have HSB:=Hd.mk hsb
     have HN6:=Hd.mk hn6
     clear hck hz9 hsa hsb hn6 hpo hdd hV8 hT1c hT3c hcfl hcall hrf b0 b1 b2 b3 l1 hs6c
     go_wp2_with fail
     refine HCALL.out.mono ?_
     rintro e W9 ⟨ρ9,c9,rfl,hC9,hS9,_⟩
     have hsl9:Step (fun _=>False) Wl NoG W9 NoG:=Step.sealN HAf.out (HSB.out.mono (fun _ h=>h.elim) |>.trans hS9:Step CkT W6 NoG W9 ρ9) (fun b _=>rfl)
     have HSL9:=Hd.mk hsl9
     have HE9:=HE2
     cases rf with
     |ok u =>
      have HE3:Hd (funsC p p.funs=funsC p (p.funs.drop (k+1))):=⟨by rw [HE2.out,HRF1.out]⟩
      clear hC9 hS9 hsl9 HCALL
      simp only [Rs.isOk]
      go_wp2
      go_roundw
      case rel=>exact ⟨k+1,by go_num,by omega,HE3.out,HSk.out.trans HSL9.out⟩
      case measure=>simp [intOf];omega
     |no =>
      have hrr:r=40:=by rw [←HRF.out,HE2.out,HRF1.out]
      subst hrr
      obtain ⟨_,_,_,_,v25,_,_,fr25,_⟩:=hC9.form
      have v25':W9.cell? ⟨W6.heap.size+1,25,none⟩=some (.bool false):=v25
      have l25:=hC9.lt
      clear hC9 hS9 hsl9 HCALL v25 fr25
      simp only [Rs.isOk]
      go_wp2
      go_ret
      exact ⟨rfl,(HSl.out.trans HSL9.out).toBelow⟩
     |big =>
      have hrr:r=1:=by rw [←HRF.out,HE2.out,HRF1.out]
      subst hrr
      obtain ⟨_,_,_,_,v25,_,_,fr25,_⟩:=hC9.form
      have v25':W9.cell? ⟨W6.heap.size+1,25,none⟩=some (.bool true):=v25
      have l25:=hC9.lt
      clear hC9 hS9 hsl9 HCALL v25 fr25
      simp only [Rs.isOk]
      go_wp2
      go_ret
      exact ⟨rfl,(HSl.out.trans HSL9.out).toBelow⟩
    ·have hke:k=p.funs.length:=by omega
     have hrr:r=0:=by
      have h1:=HE.out
      rw [hke,List.drop_length,funsC] at h1
      rw [←HRF.out,h1]
     subst hrr
     clear hke
     go_wp2
     go_ret
     exact ⟨rfl,HSl.out.toBelow⟩
end Go.Proofs.Ytadffbgbndibpaa
