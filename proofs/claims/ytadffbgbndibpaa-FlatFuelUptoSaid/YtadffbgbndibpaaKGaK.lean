/- GaQ, GaR, GaK: lemmas and walks of the claim. -/
import Derived.Test.YtadffbgbndibpaaKGaP
import Derived.Test.YtadffbgbndibpaaKGaF
import Derived.Test.YtadffbgbndibpaaKFlX
set_option linter.unusedVariables false
set_option linter.unusedSimpArgs false
set_option maxHeartbeats 16000000
set_option maxRecDepth 100000
namespace Go.Proofs.Ytadffbgbndibpaa
section
open Go Go.RowKit
theorem nested_of (p:Pg) (ty:Int) (nd N:Nat) (hP:HdP p) (HBC:Hd (BlockC p ty nd N)):NestedC p ty nd N:=by
 intro w ρ C hd mb c n s S0 S1 S2 S3 S4 S5 S6 S7 S8 S9 s0 s1 s2 s3 s4 s5 s6 s7 s8 s9 ag G cg q hC hK hn hV hG hFG hFt h0 h27 hop hfr ho
 subst hn
 by_cases o7:s.op=7
 ·exact nested_7 p ty nd n HBC w ρ C hd mb c s S0 S1 S2 S3 S4 S5 S6 S7 S8 S9 s0 s1 s2 s3 s4 s5 s6 s7 s8 s9 ag G cg q hC hK hV hG hFG hFt o7 hfr ho
 ·by_cases o26:s.op=26
  ·exact nested_26 p ty nd n HBC w ρ C hd mb c s S0 S1 S2 S3 S4 S5 S6 S7 S8 S9 s0 s1 s2 s3 s4 s5 s6 s7 s8 s9 ag G cg q hC hK hV hG hFG hFt o26 hfr ho
  ·by_cases o27:s.op=27
   ·exact nested_27 p ty nd n HBC hP w ρ C hd mb c s S0 S1 S2 S3 S4 S5 S6 S7 S8 S9 s0 s1 s2 s3 s4 s5 s6 s7 s8 s9 ag G cg q hC hK hV hG hFG hFt o27 hfr ho
   ·have o17:s.op=17:=by omega
    by_cases hna:ag=[]
    ·by_cases hb2:s.blocks.length<2
     ·exact nested_17b p ty nd n HBC w ρ C hd mb c s S0 S1 S2 S3 S4 S5 S6 S7 S8 S9 s0 s1 s2 s3 s4 s5 s6 s7 s8 s9 ag G cg q hC hK hV hG hFG hFt o17 hna hb2 hfr ho
     ·obtain ⟨b0,b1,arms,hbl⟩:∃ b0 b1 arms,s.blocks=b0 :: b1 :: arms:=by
       match h:s.blocks with
       |[]=>rw [h] at hb2;simp at hb2
       |[_]=>rw [h] at hb2;simp at hb2
       |x :: y :: l=>exact ⟨x,y,l,rfl⟩
      exact nested_17c p ty nd n HBC w ρ C hd mb c s S0 S1 S2 S3 S4 S5 S6 S7 S8 S9 s0 s1 s2 s3 s4 s5 s6 s7 s8 s9 ag G cg q hC hK hV hG hFG hFt o17 hna b0 b1 arms hbl hfr ho
    ·exact nested_17a p ty nd n HBC w ρ C hd mb c s S0 S1 S2 S3 S4 S5 S6 S7 S8 S9 s0 s1 s2 s3 s4 s5 s6 s7 s8 s9 ag G cg q hC hK hV hG hFG hFt o17 hna hfr ho
theorem block_any (p:Pg) (ty:Int) (nd:Nat) (hty:I64 ty) (hP:HdP p):∀ N,BlockC p ty nd N
 |0=>by
  intro w ρ C hd mb c b B1 B2 k1 k2 bn B cb nb code hC hK hR
  exact absurd hR (by unfold BkR;exact id)
 |N+1=>block_succ p ty nd N ⟨step_of p ty nd N hty hP ⟨nested_of p ty nd N hP ⟨block_any p ty nd hty hP N⟩⟩⟩
end
section
open Go Go.RowKit
theorem DatsR.pre {w:World} {ρ:Ghost} {n:Nat} {A:Option Addr} {len c:Nat} {l:List Dat} (h:DatsR w ρ n (.slice A len c) l) (k:Nat) (hk:k≤l.length):DatsR w ρ n (.slice A k c) (l.take k):=by
 obtain ⟨A',c',h1,h2,h3,h4,h5⟩:=h.out
 cases h1
 have hl:(l.take k).length=k:=by rw [List.length_take];omega
 refine ⟨A,c,by rw [hl],by omega,h3,by rw [hl];exact Nat.le_trans (Nat.mul_le_mul_right _ hk) h4,fun i x hi=>h5 i x ?_⟩
 rw [List.getElem?_take] at hi
 split at hi
 ·exact hi
 ·cases hi
theorem str_iff (s:ByteArray) (l:List UInt8):s=⟨l.toArray⟩↔s.toList=l:=by
 rw [ByteArray.toList_eq]
 constructor
 ·rintro rfl
  rfl
 ·intro h
  cases s with
  |mk d=>exact congrArg ByteArray.mk (Array.ext' h)
theorem datSize (w:World):(sizeOf (Try.prog.elem 22)).run Try.prog w= .ok 3 w:=by kernel_rfl
theorem datSlice (w:World) (b o n c k:Nat) (hk:k≤c) (k1:Int) (h1:k1=(k:Int)):(Instr.slice 22 (.slice (some ⟨b,o,none⟩) n c) none (some (.int .i64 k1)) none).run Try.prog w= .ok (.slice (some ⟨b,o,none⟩) k c) w:=by
 subst h1
 rw [run_slice_h w 22 _ n c (by kernel_rfl) .i64 (k:Int) (by omega) (by omega),datSize]
 have hadd:(⟨b,o,none⟩:Addr).add 0=⟨b,o,none⟩:=by unfold Addr.add;split <;> simp_all
 simp only [Result.andThen_ok,sliced,Option.map_some,Nat.zero_mul,hadd,Int.toNat_natCast,ite_self,Nat.sub_zero]
theorem datsOk_drop (al:List Dat) {l:List Dat} {k:Nat} {d:Dat} (h:l[k]? =some d):datsOk al k (l.drop k)=(decide (d.cons≠[]) && consOk (al.take (k+1)) d.vars.length d.cons && datsOk al (k+1) (l.drop (k+1))):=by rw [drop_cons h,datsOk]
theorem consOk_drop (ds:List Dat) (vars:Int) {l:List Con} {k:Nat} {x:Con} (h:l[k]? =some x):consOk ds vars (l.drop k)=(formedL ds vars x.fields && consOk ds vars (l.drop (k+1))):=by rw [drop_cons h];unfold consOk;rw [List.all_cons]
theorem allFun_drop (p:Pg) {l:List Fu} {k:Nat} {f:Fu} (h:l[k]? =some f):(l.drop k).all (funOk p)=(funOk p f && (l.drop (k+1)).all (funOk p)):=by rw [drop_cons h,List.all_cons]
theorem allInt_drop {l:List Ty} {k:Nat} {t:Ty} (h:l[k]? =some t):(l.drop k).all (fun t=>decide (t.kind=0))=(decide (t.kind=0) && (l.drop (k+1)).all (fun t=>decide (t.kind=0))):=by rw [drop_cons h,List.all_cons]
theorem heads_any (n:Nat) (w:World) (ρ:Ghost) (p:Pg) (v1 v2 v3:Value) (hR:PgR w ρ n p [v1,v2,v3, .int .i64 p.main]) (hfr:Fresh w ρ) :
 Calls Try.prog 12 #[.agg #[v1,v2,v3, .int .i64 p.main]] w fun e w'=>e= .returned (.bool (headsOk p))∧Below w.heap.size w w':=by
 obtain ⟨v1',v2',v3',hcs,hmain,hT1,hT2,hT3⟩:=hR
 simp only [List.cons.injEq,and_true,true_and] at hcs
 obtain ⟨rfl,rfl,rfl⟩:=hcs
 have hT1:DatsR w ρ n v1 p.datas:=hT1
 have hT3:FusR w ρ n v3 p.funs:=hT3
 obtain ⟨A1,c1,rfl,hlc1,hcm1⟩:=SlR.form hT1
 obtain ⟨A2,c2,rfl,_,hcm2⟩:=SlR.form hT2
 obtain ⟨A3,c3,rfl,hlc3,hcm3⟩:=SlR.form hT3
 have hlen1:p.datas.length≤9223372036854775807:=by unfold maxLen at hcm1;omega
 have hlen2:p.exns.length≤9223372036854775807:=by unfold maxLen at hcm2;omega
 have hlen3:p.funs.length≤9223372036854775807:=by unfold maxLen at hcm3;omega
 have HT1:=Hd.mk hT1
 have HT2:=Hd.mk hT2
 have HT3:=Hd.mk hT3
 have HFR:=Hd.mk hfr
 have HC1:=Hd.mk hlc1
 obtain ⟨r,hr⟩:∃ z,headsOk p=z:=⟨_,rfl⟩
 rw [hr]
 unfold headsOk at hr
 have HR:=Hd.mk hr
 have HS1:=Hd.mk ((Step.refl (fun _=>False) w ρ).alloc (.cells #[.slice A1 p.datas.length c1, .slice A2 p.exns.length c2, .slice A3 p.funs.length c3, .int .i64 p.main] 26))
 have HB1:Hd (Blk (w.alloc (.cells #[.slice A1 p.datas.length c1, .slice A2 p.exns.length c2, .slice A3 p.funs.length c3, .int .i64 p.main] 26)) w.heap.size 26 [.slice A1 p.datas.length c1, .slice A2 p.exns.length c2, .slice A3 p.funs.length c3, .int .i64 p.main]):=⟨Blk.new' _ _ _⟩
 have HN1:Hd (ρ w.heap.size=none):=⟨hfr _ (Nat.le_refl _)⟩
 clear hT1 hT2 hT3 hcm1 hlc1 hcm2 hlc3 hcm3 hfr hr
 by_cases hx3:p.exns.length<3
 ·have HRF:Hd (r=false):=⟨by rw [←HR.out];unfold exnsOk;rw [show decide (3≤p.exns.length)=false by simp;omega];rfl⟩
  have z1:((p.exns.length:Nat):Int)<3:=by omega
  have z2:decide (((p.exns.length:Nat):Int)<3)=true:=by simp;omega
  clear hx3
  have hrr:=HRF.out
  subst hrr
  go_enter Try.func12,Try.ntmps12
  go_wp2
  go_ret
  exact ⟨rfl,HS1.out.toBelow⟩
 ·obtain ⟨e0,e1,e2,rest,hx⟩:∃ e0 e1 e2 rest,p.exns=e0 :: e1 :: e2 :: rest:=by
   match h:p.exns with
   |[]=>rw [h] at hx3;simp at hx3
   |[_]=>rw [h] at hx3;simp at hx3
   |[_,_]=>rw [h] at hx3;simp at hx3
   |a :: b :: c :: l=>exact ⟨a,b,c,l,rfl⟩
  have HX:=Hd.mk hx
  obtain ⟨bE,oE,cs0,hE0,_,hs0,hc0⟩:=HT2.out.get (i:=0) (x:=e0) (by rw [hx];rfl)
  obtain ⟨bE1,oE1,cs1,hE1,_,hs1,hc1⟩:=HT2.out.get (i:=1) (x:=e1) (by rw [hx];rfl)
  obtain ⟨bE2,oE2,cs2,hE2,_,hs2,hc2⟩:=HT2.out.get (i:=2) (x:=e2) (by rw [hx];rfl)
  subst hE0
  cases hE1
  cases hE2
  obtain ⟨rfl,_⟩:=hs0
  obtain ⟨rfl,_⟩:=hs1
  obtain ⟨rfl,_⟩:=hs2
  have q0:w.cell? ⟨bE,oE,none⟩=some (.string e0):=by simpa using hc0 0 _ rfl
  have q1:w.cell? ⟨bE,oE+1,none⟩=some (.string e1):=by simpa using hc1 0 _ rfl
  have q2:w.cell? ⟨bE,oE+2,none⟩=some (.string e2):=by simpa using hc2 0 _ rfl
  have lE:bE<w.heap.size:=World.block_lt_of_cell? w ⟨bE,_,none⟩ q0
  have z1:¬(((p.exns.length:Nat):Int)<3):=by omega
  have z2:decide (((p.exns.length:Nat):Int)<3)=false:=by simp;omega
  have g0:(0:Int)<p.exns.length:=by omega
  have g1:(1:Int)<p.exns.length:=by omega
  have g2:(2:Int)<p.exns.length:=by omega
  have HXO:Hd (exnsOk p.exns=(decide (e0=divName) && decide (e1=idxName) && decide (e2=sizName))):=⟨by rw [hx];unfold exnsOk;simp⟩
  clear hx hx3 hc0 hc1 hc2
  by_cases hd0:e0.toList=[68,105,118]
  ·have HE0:Hd (e0=divName):=⟨(str_iff e0 [68,105,118]).2 hd0⟩
   by_cases hd1:e1.toList=[73,110,100,101,120]
   ·have HE1:Hd (e1=idxName):=⟨(str_iff e1 [73,110,100,101,120]).2 hd1⟩
    by_cases hd2:e2.toList=[83,105,122,101]
    ·have HE2:Hd (e2=sizName):=⟨(str_iff e2 [83,105,122,101]).2 hd2⟩
     by_cases hm0:p.main<0
     ·have w1:decide (p.main<0)=true:=by simp;omega
      have HM0:=Hd.mk hm0
      have HRF:Hd (r=false):=⟨by rw [←HR.out];rw [show decide (0≤p.main)=false by simp;exact HM0.out];simp⟩
      have hrr:=HRF.out
      subst hrr
      go_enter Try.func12,Try.ntmps12
      go_wp2
      go_ret
      exact ⟨rfl,HS1.out.toBelow⟩
     ·have w1:decide (p.main<0)=false:=by simp;omega
      have hm0i:0≤p.main:=by omega
      by_cases hm1:(p.funs.length:Int)≤p.main
      ·have w2:decide ((p.funs.length:Int)≤p.main)=true:=by simp;omega
       have w3:decide (p.main ≥ (p.funs.length:Int))=true:=by simp;omega
       have HM0:=Hd.mk hm1
       have HRF:Hd (r=false):=⟨by rw [←HR.out];rw [show decide (p.main<(p.funs.length:Int))=false by simp;exact HM0.out];simp⟩
       have hrr:=HRF.out
       subst hrr
       go_enter Try.func12,Try.ntmps12
       go_wp2
       go_ret
       exact ⟨rfl,HS1.out.toBelow⟩
      ·have w2:decide ((p.funs.length:Int)≤p.main)=false:=by simp;omega
       have w3:decide (p.main ≥ (p.funs.length:Int))=false:=by simp;omega
       have HR1:Hd ((datsOk p.datas 0 p.datas && p.funs.all (funOk p) && (p.funs[p.main.toNat]?).elim false mainOk)=r):=⟨by
        rw [←HR.out,HXO.out,HE0.out,HE1.out,HE2.out,show decide (0≤p.main)=true by simp;exact hm0i,show decide (p.main<(p.funs.length:Int))=true by simp;omega]
        simp⟩
       have HM:=Hd.mk (And.intro hm0i hm1)
       clear hm0 hm1
       go_enter Try.func12,Try.ntmps12
       go_wp2_with fail
       clear q0 q1 q2 lE z1 z2 g0 g1 g2 hd0 hd1 hd2 w1 w2 w3
       generalize w.alloc (.cells #[.slice A1 p.datas.length c1, .slice (some ⟨bE,oE,none⟩) p.exns.length c2, .slice A3 p.funs.length c3, .int .i64 p.main] 26)=W at *
       have HT1W:=Hd.mk (HT1.out.step HS1.out)
       have HB1w:=HB1
       have HT3W:=Hd.mk (HT3.out.step HS1.out)
       have HFW:=Hd.mk (HS1.out.fresh HFR.out)
       obtain ⟨z1,hz1⟩:∃ z,datsOk p.datas 0 p.datas=z:=⟨_,rfl⟩
       obtain ⟨z2,hz2⟩:∃ z,p.funs.all (funOk p)=z:=⟨_,rfl⟩
       obtain ⟨z3,hz3⟩:∃ z,(p.funs[p.main.toNat]?).elim false mainOk=z:=⟨_,rfl⟩
       have HZ1:=Hd.mk hz1
       have HZ2:=Hd.mk hz2
       have HZ3:=Hd.mk hz3
       clear hz1 hz2 hz3 hlen2
       go_loopw [54] (fun vk wr=>∃ k:Nat,vk= .int .i64 k∧k≤p.datas.length∧datsOk p.datas 0 p.datas=datsOk p.datas k (p.datas.drop k)∧Step (fun _=>False) W ρ wr ρ) (fun v _=>p.datas.length-(intOf v).toNat)
       case atStart=>exact ⟨0,by simp,by omega,by simp,Step.refl _ _ _⟩
       case round =>
        obtain ⟨k,rfl,hk,he,hS⟩:=hrel
        have HE:=Hd.mk he
        have HS:=Hd.mk hS
        clear he hS
        obtain ⟨Wk,rfl⟩:∃ W,W=wr:=⟨_,rfl⟩
        by_cases hlt:k<p.datas.length
        ·have hlti:(k:Int)<p.datas.length:=by omega
         have hk0:(0:Int)≤k:=by omega
         have hk1:k+1≤p.datas.length:=by omega
         obtain ⟨bD,oD,V1,u1,V2,u2,hDA,hvs,hcs,q0,q1,q2⟩:=(HT1W.out.step HS.out).elem (List.getElem?_eq_getElem hlt)
         subst hDA
         have hdr:=datsOk_drop p.datas (List.getElem?_eq_getElem hlt)
         generalize p.datas[k]=d at *
         have HE2:=Hd.mk (HE.out.trans hdr)
         have HTL:Hd ((p.datas.take (k+1)).length=k+1):=⟨by rw [List.length_take];omega⟩
         have HVI:Hd (I64 ((d.vars.length:Nat):Int)):=⟨by
          obtain ⟨_,_,hv,_,h3⟩:=SlR.form hvs
          cases hv
          unfold maxLen at h3
          constructor <;> omega⟩
         have hdc:d.cons.length≤9223372036854775807:=by
          obtain ⟨_,_,hv,_,h3⟩:=SlR.form hcs
          cases hv
          unfold maxLen at h3
          omega
         have HCON:=Hd.mk hcs
         have lD:bD<Wk.heap.size:=World.block_lt_of_cell? Wk ⟨bD,_,none⟩ q0
         have hDA2:Hd (Blk (Wk.alloc (.cells #[.string d.name, .slice V1 d.vars.length u1, .slice V2 d.cons.length u2] 73)) Wk.heap.size 73 [.string d.name, .slice V1 d.vars.length u1, .slice V2 d.cons.length u2]):=⟨Blk.new' _ _ _⟩
         have HN4:Hd (ρ Wk.heap.size=none):=⟨HS.out.fresh HFW.out _ (Nat.le_refl _)⟩
         have HSD:=Hd.mk ((Step.refl (fun _=>False) Wk ρ).alloc (.cells #[.string d.name, .slice V1 d.vars.length u1, .slice V2 d.cons.length u2] 73))
         have hb1:=HS.out.blk HB1.out (fun t ht=>by rw [HN1.out] at ht;cases ht)
         have b0:Wk.cell? ⟨w.heap.size,0,none⟩=some (.slice (some ⟨bD,oD,none⟩) p.datas.length c1):=hb1.cell (i:=0) rfl
         have l1:=hb1.lt
         clear hdr hvs hcs HE hb1
         by_cases hce:d.cons.length=0
         ·have HRF:Hd (r=false):=⟨by
           rw [←HR1.out,HE2.out,List.length_eq_zero_iff.1 hce]
           rfl⟩
          have hrr:=HRF.out
          subst hrr
          have w1:((d.cons.length:Int) == 0)=true:=by simp [hce]
          have w2:decide ((d.cons.length:Int)=0)=true:=by simp [hce]
          have w3:(d.cons.length:Int)=0:=by omega
          clear hce
          go_wp2
          go_ret
          exact ⟨rfl,(HS1.out.trans (HS.out.trans HSD.out)).toBelow⟩
         ·have w1:((d.cons.length:Int) == 0)=false:=beq_eq_false_iff_ne.2 (by omega)
          have w2:decide ((d.cons.length:Int)=0)=false:=decide_eq_false (by omega)
          have w3:¬((d.cons.length:Int)=0):=by omega
          have HE3:Hd (datsOk p.datas 0 p.datas=(consOk (p.datas.take (k+1)) d.vars.length d.cons && datsOk p.datas (k+1) (p.datas.drop (k+1)))):=⟨by
           rw [HE2.out,show decide (d.cons≠[])=true by simp;intro h;exact hce (by rw [h];rfl),Bool.true_and]⟩
          clear hce
          go_wp2_with fail
          clear w1 w2 w3
          generalize Wk.alloc (.cells #[.string d.name, .slice V1 d.vars.length u1, .slice V2 d.cons.length u2] 73)=W4 at *
          generalize Wk.heap.size=X4 at *
          obtain ⟨z4,hz4⟩:∃ z,consOk (p.datas.take (k+1)) d.vars.length d.cons=z:=⟨_,rfl⟩
          have HZ4:=Hd.mk hz4
          clear hz4 q0 q1 q2 b0
          go_loopw [66] (fun vj wx=>∃ j:Nat,vj= .int .i64 j∧j≤d.cons.length∧consOk (p.datas.take (k+1)) d.vars.length d.cons=consOk (p.datas.take (k+1)) d.vars.length (d.cons.drop j)∧Step (fun _=>False) W4 ρ wx ρ) (fun v _=>d.cons.length-(intOf v).toNat)
          case atStart=>exact ⟨0,by simp,by omega,by simp,Step.refl _ _ _⟩
          case round =>
           obtain ⟨j,rfl,hj,he,hSj⟩:=hrel
           have HEj:=Hd.mk he
           have HSj:=Hd.mk hSj
           clear he hSj
           obtain ⟨Wj,rfl⟩:∃ W,W=wr:=⟨_,rfl⟩
           have HSkj:=Hd.mk (HS.out.trans (HSD.out.trans HSj.out))
           by_cases hltj:j<d.cons.length
           ·have hltji:(j:Int)<d.cons.length:=by omega
            have hj0:(0:Int)≤j:=by omega
            obtain ⟨bc,oc,F0,f0,hcA,hTF,_,q0,q1⟩:=(HCON.out.step (HSD.out.trans HSj.out)).elem (List.getElem?_eq_getElem hltj)
            subst hcA
            have hdr:=consOk_drop (p.datas.take (k+1)) (d.vars.length:Int) (List.getElem?_eq_getElem hltj)
            generalize d.cons[j]=x at *
            have lc:bc<Wj.heap.size:=World.block_lt_of_cell? Wj ⟨bc,_,none⟩ q0
            have hb6:Blk (Wj.alloc (.cells #[.string x.name, .slice F0 x.fields.length f0] 80)) Wj.heap.size 80 [.string x.name, .slice F0 x.fields.length f0]:=Blk.new' _ _ _
            have HSX:=Hd.mk ((Step.refl (fun _=>False) Wj ρ).alloc (.cells #[.string x.name, .slice F0 x.fields.length f0] 80))
            obtain ⟨z,hz⟩:∃ z,formedL (p.datas.take (k+1)) d.vars.length x.fields=z:=⟨_,rfl⟩
            have HZ:=Hd.mk hz
            rw [hz] at hdr
            have HEj2:=Hd.mk (HEj.out.trans hdr)
            have HTF:=Hd.mk hTF
            clear hdr hTF hz HEj
            go_wp2_with fail
            generalize Wj.alloc (.cells #[.string x.name, .slice F0 x.fields.length f0] 80)=W5 at *
            generalize Wj.heap.size=X6 at *
            have HSY:=Hd.mk (HSkj.out.trans HSX.out)
            have HSZ:=HSX
            have hb1:=HSY.out.blk HB1.out (fun t ht=>by rw [HN1.out] at ht;cases ht)
            have hb4:=(HSj.out.trans HSX.out).blk hDA2.out (fun t ht=>by rw [HN4.out] at ht;cases ht)
            have b0:W5.cell? ⟨w.heap.size,0,none⟩=some (.slice (some ⟨bD,oD,none⟩) p.datas.length c1):=hb1.cell (i:=0) rfl
            have s0:W5.cell? ⟨X4,0,none⟩=some (.string d.name):=hb4.cell (i:=0) rfl
            have s1:W5.cell? ⟨X4,1,none⟩=some (.slice V1 d.vars.length u1):=hb4.cell (i:=1) rfl
            have t0:W5.cell? ⟨X6,0,none⟩=some (.string x.name):=hb6.cell (i:=0) rfl
            have t1:W5.cell? ⟨X6,1,none⟩=some (.slice F0 x.fields.length f0):=hb6.cell (i:=1) rfl
            have l1:=hb1.lt
            have l4:=hb4.lt
            have l6:=hb6.lt
            have ewr:IntKind.i64.wrap ((k:Int)+1)=(k:Int)+1:=IntWalk.i64_in _ (by omega)
            have ek1:(0:Int)≤(k:Int)+1:=by omega
            have ekc:(k:Int)+1≤c1:=by have:=HC1.out;omega
            have hsl:∀ W,(Instr.slice 22 (.slice (some ⟨bD,oD,none⟩) p.datas.length c1) none (some (.int .i64 ((k:Int)+1))) none).run Try.prog W= .ok (.slice (some ⟨bD,oD,none⟩) (k+1) c1) W:=fun W=>datSlice W bD oD _ c1 (k+1) (by have:=HC1.out;omega) _ rfl
            have HSc:=Hd.mk ((Step.refl (fun _=>False) W5 ρ).drew)
            clear hb1 hb4 hb6 q0 q1 lc
            refine wp_region_held_drew (S:=(fun wv=>Step (fun _=>False) W5 ρ wv ρ∧∀ a:Addr,a.block<W5.heap.size→wv.cell? a=W5.cell? a)) (by kernel_rfl) (keepS_of HSc.out) (fun hHeld=>?_)
            refine tkP 0 ?_
            refine tkP 1 ?_
            refine tkP 2 ?_
            refine tkP 3 ?_
            refine tkP 4 ?_
            refine tkP 5 ?_
            refine tkP 6 ?_
            refine tkP 7 ?_
            refine tkP 8 ?_
            refine tkP 9 ?_
            refine tkR 10 (fun K hK=>?_)
            go_simp
            go_at_call 24
            have hcall:=formed_any n W5.drew ρ (p.datas.take (k+1)) x.fields (some ⟨bD,oD,none⟩) c1 n F0 f0 d.vars.length (by rw [HTL.out];exact (HT1W.out.step (HSY.out.drew)).pre (k+1) hk1) (HTF.out.step (HSZ.out.drew)) HVI.out
            rw [HTL.out,HZ.out] at hcall
            refine hcall.mono ?_
            rintro e Wn ⟨rfl,hb⟩
            have HSc:=Hd.mk (HSc.out.of_below hb)
            clear hb hcall
            go_wp2_with fail
            try clear hHeld
            refine tkK hK (by first|exact keepS_of HSc.out|exact keepS_of (HSc.out.alloc _)) (fun hHeld=>?_)
            clear hK K
            refine tkP 11 ?_
            refine wpAnyH_done (by kernel_rfl) ?_ _
            try clear hHeld
            have HSQ:=Hd.mk (HSX.out.trans HSc.out)
            clear hsl ewr ek1 ekc b0 s0 s1 t0 t1 l1 l4 l6 HSc
            cases z with
            |false =>
             have HRF:Hd (r=false):=⟨by rw [←HR1.out,HE3.out,HEj2.out];rfl⟩
             have hrr:=HRF.out
             subst hrr
             go_wp2
             go_ret
             exact ⟨rfl,(HS1.out.trans (HSkj.out.trans HSQ.out)).toBelow⟩
            |true =>
             go_wp2
             go_roundw
             case rel=>exact ⟨j+1,by go_num,by omega,by rw [HEj2.out,Bool.true_and],HSj.out.trans HSQ.out⟩
             case measure=>simp [intOf];omega
           ·have hje:j=d.cons.length:=by omega
            have HE4:Hd (datsOk p.datas 0 p.datas=datsOk p.datas (k+1) (p.datas.drop (k+1))):=⟨by
             have h1:=HEj.out
             rw [hje,List.drop_length] at h1
             rw [HE3.out,h1]
             show (true && _)=_
             rw [Bool.true_and]⟩
            clear hje
            go_wp2
            go_roundw
            case rel=>exact ⟨k+1,by go_num,by omega,HE4.out,HSkj.out⟩
            case measure=>simp [intOf];omega
        ·have hke:k=p.datas.length:=by omega
         have HR2:Hd ((p.funs.all (funOk p) && (p.funs[p.main.toNat]?).elim false mainOk)=r):=⟨by
          have h1:=HE.out
          rw [hke,List.drop_length,datsOk] at h1
          rw [←HR1.out,h1,Bool.true_and]⟩
         have HSA:=Hd.mk (HS1.out.trans HS.out)
         clear hke
         have hb1:=HS.out.blk HB1.out (fun t ht=>by rw [HN1.out] at ht;cases ht)
         have b2:Wk.cell? ⟨w.heap.size,2,none⟩=some (.slice A3 p.funs.length c3):=hb1.cell (i:=2) rfl
         have l1:=hb1.lt
         have HB1k:=Hd.mk hb1
         have HT3k:=Hd.mk (HT3W.out.step HS.out)
         clear hb1
         go_wp2_with fail
         clear hlt hk
         go_loopw [87] (fun vk wr=>∃ k:Nat,vk= .int .i64 k∧k≤p.funs.length∧p.funs.all (funOk p)=(p.funs.drop k).all (funOk p)∧Step (fun _=>False) Wk ρ wr ρ) (fun v _=>p.funs.length-(intOf v).toNat)
         case atStart=>exact ⟨0,by simp,by omega,by simp,Step.refl _ _ _⟩
         case round =>
          obtain ⟨k,rfl,hk,he,hS⟩:=hrel
          have HE:=Hd.mk he
          have HSk:=Hd.mk hS
          have HSl:=Hd.mk (HSA.out.trans hS)
          clear he hS
          obtain ⟨Wl,rfl⟩:∃ W,W=wr:=⟨_,rfl⟩
          by_cases hlt:k<p.funs.length
          ·have hlti:(k:Int)<p.funs.length:=by omega
           have hk0:(0:Int)≤k:=by omega
           obtain ⟨bF,oF,e1',e2',vp,va0,r1,r2,vb,vs,hFA,hV,hcf⟩:=(HT3.out.step HSl.out).elem (List.getElem?_eq_getElem hlt)
           subst hFA
           have hdr:=allFun_drop p (List.getElem?_eq_getElem hlt)
           generalize p.funs[k]=f at *
           have HE2:=Hd.mk (HE.out.trans hdr)
           obtain ⟨_,_,_,_,_,hty,_,_,_,_,hy0,hy1,hy2⟩:=TyR.shape hV.result
           simp only [List.cons.injEq,and_true,true_and] at hty
           obtain ⟨rfl,rfl,rfl⟩:=hty
           obtain ⟨_,_,_,_,hbd,_,_,hy5,hy6⟩:=BkR.shape hV.body
           simp only [List.cons.injEq,and_true,true_and] at hbd
           obtain ⟨rfl,rfl⟩:=hbd
           have hy3:=hV.t1
           have hy4:=hV.t2
           have hy7:=hV.params
           obtain ⟨a0,k0,rfl,hl0,hm0⟩:=SlR.form hy3
           obtain ⟨a1,k1,rfl,hl1,hm1⟩:=SlR.form hy4
           obtain ⟨a2,k2,rfl,hl2,hm2⟩:=SlR.form hy7
           obtain ⟨a3,k3,rfl,hl3,hm3⟩:=SlR.form hy0
           obtain ⟨a4,k4,rfl,hl4,hm4⟩:=SlR.form hy1
           obtain ⟨a5,k5,rfl,hl5,hm5⟩:=SlR.form hy2
           obtain ⟨a6,k6,rfl,hl6,hm6⟩:=SlR.form hy5
           obtain ⟨a7,k7,rfl,hl7,hm7⟩:=SlR.form hy6
           clear hy0 hy1 hy2 hy3 hy4 hy5 hy6 hy7 hl0 hm0 hl1 hm1 hl2 hm2 hl3 hm3 hl4 hm4 hl5 hm5 hl6 hm6 hl7 hm7
           have HFV:=Hd.mk hV
           have HN8:Hd (ρ Wl.heap.size=none):=⟨HSl.out.fresh HFR.out _ (Nat.le_refl _)⟩
           have lF:bF<Wl.heap.size:=World.block_lt_of_cell? Wl ⟨bF,_,none⟩ (hcf 0 _ rfl)
           clear hdr hV HE b2 l1
           have hin:(Try.prog.info? 48).map (·.size)=some 19:=by kernel_rfl
           generalize hcs:fuCells f _ _ _ _ _ _ _ _=cs at hcf
           have hcl:cs.length=19:=by rw [←hcs];rfl
           have hone:cs.toArray.all (·.oneCell')=true:=by rw [←hcs];exact fuCells_one ..
           have hin2:(Try.prog.info? 48).map (·.size)=some cs.length:=by rw [hcl];exact hin
           have HSZ:Hd (cs.toArray.size=19):=⟨by rw [List.size_toArray,hcl]⟩
           have HCC:Hd (Wl.rangeAt bF (oF+k*19) cs):=⟨hcf⟩
           have HIN:=Hd.mk hin2
           have HON:=Hd.mk hone
           have HAf:=Hd.mk ((Step.refl (fun _=>False) Wl ρ).alloc (.cells cs.toArray 48))
           have XS0:=Hd.mk (Blk.new' Wl cs.toArray 48)
           have HCS:=Hd.mk hcs
           clear hcf hin hone hcs hin2 hcl
           go_wp2_with (first|(refine wpList_load_mid rfl 48 _ rfl bF (oF+k*19) rfl cs _ HCC.out Try.underlying48 rfl HIN.out ?_)|(refine wpList_store_newV rfl 48 _ _ rfl _ cs.toArray rfl rfl (by rw [List.size_toArray];exact HIN.out) (by exact (Eq.trans rfl HSZ.out.symm)) HON.out ?_))
           refine ⟨?_⟩
           generalize Wl.alloc (.cells cs.toArray 48)=W6 at *
           generalize Wl.heap.size=X8 at *
           have xs0:Blk W6 X8 48 cs:=XS0.out
           rw [←HCS.out] at xs0
           have XSf:=Hd.mk xs0
           clear xs0 XS0 HCS HON HIN HCC HSZ
           have HB16:=Hd.mk ((HSk.out.trans HAf.out).blk HB1k.out (fun t ht=>by rw [HN1.out] at ht;cases ht))
           have HSX:=Hd.mk (HSl.out.trans HAf.out)
           have c2':W6.cell? ⟨X8,2,none⟩=some (.int .i64 f.types):=XSf.out.cell (i:=2) rfl
           have c3':W6.cell? ⟨X8,3,none⟩=some (.int .i64 f.regions):=XSf.out.cell (i:=3) rfl
           have c4':W6.cell? ⟨X8,4,none⟩=some (.int .i64 f.effects):=XSf.out.cell (i:=4) rfl
           have c5':W6.cell? ⟨X8,5,none⟩=some (.slice a0 f.touch.regs.length k0):=XSf.out.cell (i:=5) rfl
           have c6':W6.cell? ⟨X8,6,none⟩=some (.slice a1 f.touch.vars.length k1):=XSf.out.cell (i:=6) rfl
           have l8':=XSf.out.lt
           clear lF
           by_cases h1:f.types<0
           ·have w1:decide (f.types<0)=true:=decide_eq_true h1
            have HW1:Hd (decide (0≤f.types)=false):=⟨decide_eq_false (by omega)⟩
            have HRF:Hd (r=false):=⟨by rw [←HR2.out,HE2.out];unfold funOk;simp [HW1.out]⟩
            have hrr:r=false:=HRF.out
            subst hrr
            go_wp2
            go_ret
            exact ⟨rfl,HSX.out.toBelow⟩
           ·have w1:decide (f.types<0)=false:=decide_eq_false h1
            have HW1:Hd (decide (0≤f.types)=true):=⟨decide_eq_true (by omega)⟩
            by_cases h2:(16384:Int)<f.types
            ·have w2:decide ((16384:Int)<f.types)=true:=decide_eq_true h2
             have w3:decide (f.types > (16384:Int))=true:=decide_eq_true h2
             have HW2:Hd (decide (f.types≤16384)=false):=⟨decide_eq_false (by omega)⟩
             have HRF:Hd (r=false):=⟨by rw [←HR2.out,HE2.out];unfold funOk;simp [HW2.out]⟩
             have hrr:r=false:=HRF.out
             subst hrr
             go_wp2
             go_ret
             exact ⟨rfl,HSX.out.toBelow⟩
            ·have w2:decide ((16384:Int)<f.types)=false:=decide_eq_false h2
             have w3:decide (f.types > (16384:Int))=false:=decide_eq_false h2
             have HW2:Hd (decide (f.types≤16384)=true):=⟨decide_eq_true (by omega)⟩
             by_cases h3:f.regions=0
             ·have w4:(f.regions == 0)=true:=by simp [h3]
              have w5:(f.regions != 0)=false:=by simp [h3]
              have w6:decide (f.regions=0)=true:=decide_eq_true h3
              have HW3:=Hd.mk w6
              by_cases h4:f.effects=0
              ·have w7:(f.effects == 0)=true:=by simp [h4]
               have w8:(f.effects != 0)=false:=by simp [h4]
               have w9:decide (f.effects=0)=true:=decide_eq_true h4
               have HW4:=Hd.mk w9
               have H12:=Hd.mk (And.intro h1 h2)
               have H34:=Hd.mk (And.intro h3 h4)
               clear h1 h2 h3 h4
               go_wp2_with fail
               refine (empty_any W6 f.touch a0 a1 k0 k1).mono ?_
               rintro e W7 ⟨rfl,hb7⟩
               obtain ⟨z4,hz4⟩:∃ z,f.touch.empty=z:=⟨_,rfl⟩
               rw [hz4]
               have HZ4':=Hd.mk hz4
               have HSX7:Hd (Step (fun _=>False) W6 ρ W7 ρ):=⟨(Step.refl _ W6 ρ).of_below hb7⟩
               have HSX:=Hd.mk (HSX.out.trans HSX7.out)
               clear hz4 hb7
               cases z4 with
               |false =>
                have HRF:Hd (r=false):=⟨by rw [←HR2.out,HE2.out];unfold funOk;simp [HZ4'.out]⟩
                have hrr:r=false:=HRF.out
                subst hrr
                go_wp2
                go_ret
                exact ⟨rfl,HSX.out.toBelow⟩
               |true =>
                have hb1:=HSX7.out.blk HB16.out (fun t ht=>by rw [HN1.out] at ht;cases ht)
                have hb8:=HSX7.out.blk XSf.out (fun t ht=>by rw [HN8.out] at ht;cases ht)
                have b0:W7.cell? ⟨w.heap.size,0,none⟩=some (.slice A1 p.datas.length c1):=hb1.cell (i:=0) rfl
                have s2:W7.cell? ⟨X8,2,none⟩=some (.int .i64 f.types):=hb8.cell (i:=2) rfl
                have s7:W7.cell? ⟨X8,7,none⟩=some (.slice a2 f.params.length k2):=hb8.cell (i:=7) rfl
                have l1:=hb1.lt
                have l8:=hb8.lt
                obtain ⟨z5,hz5⟩:∃ z,formedL p.datas f.types f.params=z:=⟨_,rfl⟩
                have hcall:=formed_any n W7 ρ p.datas f.params A1 c1 n a2 k2 f.types (HT1.out.step HSX.out) (HFV.out.params.step (HAf.out.trans HSX7.out)) HFV.out.i2
                rw [hz5] at hcall
                have HZ5:=Hd.mk hz5
                have HCALL:=Hd.mk hcall
                clear hb1 hb8 hz5 hcall c2' c3' c4' c5' c6' l8'
                go_wp2_with fail
                refine HCALL.out.mono ?_
                rintro e W8 ⟨rfl,hb8⟩
                have HSX8:Hd (Step (fun _=>False) W7 ρ W8 ρ):=⟨(Step.refl _ W7 ρ).of_below hb8⟩
                have HSX:=Hd.mk (HSX.out.trans HSX8.out)
                clear hb8 HCALL b0 s2 s7 l1 l8
                cases z5 with
                |false =>
                 have HRF:Hd (r=false):=⟨by rw [←HR2.out,HE2.out];unfold funOk;simp [HZ5.out]⟩
                 have hrr:r=false:=HRF.out
                 subst hrr
                 go_wp2
                 go_ret
                 exact ⟨rfl,HSX.out.toBelow⟩
                |true =>
                 have hb1:=(HSX7.out.trans HSX8.out).blk HB16.out (fun t ht=>by rw [HN1.out] at ht;cases ht)
                 have hb8:=(HSX7.out.trans HSX8.out).blk XSf.out (fun t ht=>by rw [HN8.out] at ht;cases ht)
                 have b0:W8.cell? ⟨w.heap.size,0,none⟩=some (.slice A1 p.datas.length c1):=hb1.cell (i:=0) rfl
                 have s2:W8.cell? ⟨X8,2,none⟩=some (.int .i64 f.types):=hb8.cell (i:=2) rfl
                 have s8:W8.cell? ⟨X8,8,none⟩=some (.int .i64 f.result.kind):=hb8.cell (i:=8) rfl
                 have s9:W8.cell? ⟨X8,9,none⟩=some (.int .i64 f.result.n):=hb8.cell (i:=9) rfl
                 have s10:W8.cell? ⟨X8,10,none⟩=some (.string f.result.name):=hb8.cell (i:=10) rfl
                 have s11:W8.cell? ⟨X8,11,none⟩=some (.slice a3 f.result.args.length k3):=hb8.cell (i:=11) rfl
                 have s12:W8.cell? ⟨X8,12,none⟩=some (.int .i64 f.result.region):=hb8.cell (i:=12) rfl
                 have s13:W8.cell? ⟨X8,13,none⟩=some (.slice a4 f.result.eff.regs.length k4):=hb8.cell (i:=13) rfl
                 have s14:W8.cell? ⟨X8,14,none⟩=some (.slice a5 f.result.eff.vars.length k5):=hb8.cell (i:=14) rfl
                 have l1:=hb1.lt
                 have l8:=hb8.lt
                 have hfr8:=HSX.out.fresh HFR.out
                 have hb9:=Blk.new W8 (tyCells f.result (.slice a3 f.result.args.length k3) (.slice a4 f.result.eff.regs.length k4) (.slice a5 f.result.eff.vars.length k5)) 43
                 have hs9:=(Step.refl (fun _=>False) W8 ρ).alloc (.cells (tyCells f.result (.slice a3 f.result.args.length k3) (.slice a4 f.result.eff.regs.length k4) (.slice a5 f.result.eff.vars.length k5)).toArray 43)
                 have h1:=TysR.one (t:=f.result) hb9 (hfr8 _ (Nat.le_refl _)) (TyR.step (HAf.out.trans (HSX7.out.trans (HSX8.out.trans hs9))) _ HFV.out.result)
                 have hcall:=formed_any n (W8.alloc (.cells (tyCells f.result (.slice a3 f.result.args.length k3) (.slice a4 f.result.eff.regs.length k4) (.slice a5 f.result.eff.vars.length k5)).toArray 43)) ρ p.datas [f.result] A1 c1 n (some ⟨W8.heap.size,0,none⟩) 1 f.types (HT1.out.step (HSX.out.trans hs9)) h1 HFV.out.i2
                 obtain ⟨z6,hz6⟩:∃ z,formedL p.datas f.types [f.result]=z:=⟨_,rfl⟩
                 rw [hz6] at hcall
                 have HZ6:=Hd.mk hz6
                 have HCALL:=Hd.mk hcall
                 have HS89:=Hd.mk hs9
                 clear hb1 hb8 hfr8 hb9 hs9 h1 hcall hz6
                 go_wp2_with fail
                 refine HCALL.out.mono ?_
                 rintro e W9 ⟨rfl,hb9⟩
                 have HSX:=Hd.mk (HSX.out.trans (HS89.out.of_below hb9))
                 have HSk9:=Hd.mk (HSk.out.trans (HAf.out.trans (HSX7.out.trans (HSX8.out.trans (HS89.out.of_below hb9)))))
                 clear hb9 HCALL b0 s2 s8 s9 s10 s11 s12 s13 s14 l1 l8
                 cases z6 with
                 |false =>
                  have HRF:Hd (r=false):=⟨by rw [←HR2.out,HE2.out];unfold funOk;simp [HZ6.out]⟩
                  have hrr:r=false:=HRF.out
                  subst hrr
                  go_wp2
                  go_ret
                  exact ⟨rfl,HSX.out.toBelow⟩
                 |true =>
                  have HE3:Hd (p.funs.all (funOk p)=(p.funs.drop (k+1)).all (funOk p)):=⟨by rw [HE2.out];unfold funOk;simp [HW1.out,HW2.out,HW3.out,HW4.out,HZ4'.out,HZ5.out,HZ6.out]⟩
                  go_wp2
                  go_roundw
                  case rel=>exact ⟨k+1,by go_num,by omega,HE3.out,HSk9.out⟩
                  case measure=>simp [intOf];omega
              ·have w7:(f.effects == 0)=false:=by simp [h4]
               have w8:(f.effects != 0)=true:=by simp [h4]
               have w9:decide (f.effects=0)=false:=decide_eq_false h4
               have HW4:=Hd.mk w9
               have HRF:Hd (r=false):=⟨by rw [←HR2.out,HE2.out];unfold funOk;simp [HW4.out]⟩
               have hrr:r=false:=HRF.out
               subst hrr
               go_wp2
               go_ret
               exact ⟨rfl,HSX.out.toBelow⟩
             ·have w4:(f.regions == 0)=false:=by simp [h3]
              have w5:(f.regions != 0)=true:=by simp [h3]
              have w6:decide (f.regions=0)=false:=decide_eq_false h3
              have HW3:=Hd.mk w6
              have HRF:Hd (r=false):=⟨by rw [←HR2.out,HE2.out];unfold funOk;simp [HW3.out]⟩
              have hrr:r=false:=HRF.out
              subst hrr
              go_wp2
              go_ret
              exact ⟨rfl,HSX.out.toBelow⟩
          ·have hke:k=p.funs.length:=by omega
           have HR3:Hd ((p.funs[p.main.toNat]?).elim false mainOk=r):=⟨by
            have h1:=HE.out
            rw [hke,List.drop_length,List.all_nil] at h1
            rw [←HR2.out,h1,Bool.true_and]⟩
           clear hke
           obtain ⟨m,hm⟩:=Int.eq_ofNat_of_zero_le hm0i
           have hmlt:m<p.funs.length:=by have:=HM.out.2;omega
           have hmlti:(m:Int)<p.funs.length:=by omega
           have hmz:(0:Int)≤m:=by omega
           have hmt:p.main.toNat=m:=by omega
           have hget:=List.getElem?_eq_getElem hmlt
           have hb1:=HSk.out.blk HB1k.out (fun t ht=>by rw [HN1.out] at ht;cases ht)
           have b2:Wl.cell? ⟨w.heap.size,2,none⟩=some (.slice A3 p.funs.length c3):=hb1.cell (i:=2) rfl
           have b3:Wl.cell? ⟨w.heap.size,3,none⟩=some (.int .i64 m):=by rw [←hm];exact hb1.cell (i:=3) rfl
           have l1:=hb1.lt
           obtain ⟨bF,oF,e1',e2',vp,va0,r1,r2,vb,vs,hFA,hV,hcf⟩:=(HT3.out.step HSl.out).elem hget
           subst hFA
           have hmo:=HR3.out
           rw [hmt,hget] at hmo
           generalize p.funs[m]=f at *
           have HMO:Hd (r=mainOk f):=⟨hmo.symm⟩
           obtain ⟨_,_,_,_,_,hty,_,_,_,_,hy0,hy1,hy2⟩:=TyR.shape hV.result
           simp only [List.cons.injEq,and_true,true_and] at hty
           obtain ⟨rfl,rfl,rfl⟩:=hty
           obtain ⟨_,_,_,_,hbd,_,_,hy5,hy6⟩:=BkR.shape hV.body
           simp only [List.cons.injEq,and_true,true_and] at hbd
           obtain ⟨rfl,rfl⟩:=hbd
           have hy3:=hV.t1
           have hy4:=hV.t2
           have hy7:=hV.params
           obtain ⟨a0,k0,rfl,hl0,hm0⟩:=SlR.form hy3
           obtain ⟨a1,k1,rfl,hl1,hm1⟩:=SlR.form hy4
           obtain ⟨a2,k2,rfl,hl2,hm2⟩:=SlR.form hy7
           obtain ⟨a3,k3,rfl,hl3,hm3⟩:=SlR.form hy0
           obtain ⟨a4,k4,rfl,hl4,hm4⟩:=SlR.form hy1
           obtain ⟨a5,k5,rfl,hl5,hm5⟩:=SlR.form hy2
           obtain ⟨a6,k6,rfl,hl6,hm6⟩:=SlR.form hy5
           obtain ⟨a7,k7,rfl,hl7,hm7⟩:=SlR.form hy6
           clear hy0 hy1 hy2 hy3 hy4 hy5 hy6 hy7 hl0 hm0 hl1 hm1 hl2 hm2 hl3 hm3 hl4 hm4 hl5 hm5 hl6 hm6 hl7 hm7
           have HFV:=Hd.mk hV
           have HN8:Hd (ρ Wl.heap.size=none):=⟨HSl.out.fresh HFR.out _ (Nat.le_refl _)⟩
           have lF:bF<Wl.heap.size:=World.block_lt_of_cell? Wl ⟨bF,_,none⟩ (hcf 0 _ rfl)
           have HMN:=Hd.mk (And.intro hm (And.intro hmt hm0i))
           clear hb1 hmo hget hV hm hmt hm0i hmain
           have hin:(Try.prog.info? 48).map (·.size)=some 19:=by kernel_rfl
           generalize hcs:fuCells f _ _ _ _ _ _ _ _=cs at hcf
           have hcl:cs.length=19:=by rw [←hcs];rfl
           have hone:cs.toArray.all (·.oneCell')=true:=by rw [←hcs];exact fuCells_one ..
           have hin2:(Try.prog.info? 48).map (·.size)=some cs.length:=by rw [hcl];exact hin
           have HSZ:Hd (cs.toArray.size=19):=⟨by rw [List.size_toArray,hcl]⟩
           have HCC:Hd (Wl.rangeAt bF (oF+m*19) cs):=⟨hcf⟩
           have HIN:=Hd.mk hin2
           have HON:=Hd.mk hone
           have HAf:=Hd.mk ((Step.refl (fun _=>False) Wl ρ).alloc (.cells cs.toArray 48))
           have XS0:=Hd.mk (Blk.new' Wl cs.toArray 48)
           have HCS:=Hd.mk hcs
           clear hcf hin hone hcs hin2 hcl
           go_wp2_with (first|(refine wpList_load_mid rfl 48 _ rfl bF (oF+m*19) rfl cs _ HCC.out Try.underlying48 rfl HIN.out ?_)|(refine wpList_store_newV rfl 48 _ _ rfl _ cs.toArray rfl rfl (by rw [List.size_toArray];exact HIN.out) (by exact (Eq.trans rfl HSZ.out.symm)) HON.out ?_))
           refine ⟨?_⟩
           generalize Wl.alloc (.cells cs.toArray 48)=W6 at *
           generalize Wl.heap.size=X8 at *
           have xs0:Blk W6 X8 48 cs:=XS0.out
           rw [←HCS.out] at xs0
           have XSf:=Hd.mk xs0
           clear xs0 XS0 HCS HON HIN HCC HSZ
           have HS9:=Hd.mk (HSl.out.trans HAf.out)
           have HPAR:=Hd.mk (HFV.out.params.step HAf.out)
           have hpl:f.params.length≤9223372036854775807:=by
            obtain ⟨_,_,hv,h2,h3⟩:=SlR.form HFV.out.params
            cases hv
            unfold maxLen at h3
            omega
           have s2:W6.cell? ⟨X8,2,none⟩=some (.int .i64 f.types):=XSf.out.cell (i:=2) rfl
           have s7:W6.cell? ⟨X8,7,none⟩=some (.slice a2 f.params.length k2):=XSf.out.cell (i:=7) rfl
           have s8:W6.cell? ⟨X8,8,none⟩=some (.int .i64 f.result.kind):=XSf.out.cell (i:=8) rfl
           have l8:=XSf.out.lt
           clear lF b2 b3 l1
           obtain ⟨W9,rfl⟩:∃ W,W=W6:=⟨_,rfl⟩
           by_cases h1:f.types=0
           case' neg =>
            have w1:(f.types == 0)=false:=by simp [h1]
            have w2:decide (f.types=0)=false:=decide_eq_false h1
            have H1:=Hd.mk w2
            have H2:=H1
            have H3:=H1
           case' pos =>
            have w1:(f.types == 0)=true:=by simp [h1]
            have w2:decide (f.types=0)=true:=decide_eq_true h1
            have H1:=Hd.mk w2
            clear h1
            by_cases h2:f.params.length≤4
            case' neg =>
             have w3:decide ((f.params.length:Int)≤4)=false:=decide_eq_false (by omega)
             have H2:Hd (decide (f.params.length≤4)=false):=⟨decide_eq_false h2⟩
             have H22:=Hd.mk h2
             have H3:=H2
             clear h2
            case' pos =>
             have w3:decide ((f.params.length:Int)≤4)=true:=decide_eq_true (by omega)
             have H2:Hd (decide (f.params.length≤4)=true):=⟨decide_eq_true h2⟩
             have H22:=Hd.mk h2
             clear h2
             by_cases h3:f.result.kind=0
             case' pos =>
              have w4:(f.result.kind == 0)=true:=by simp [h3]
              have w5:decide (f.result.kind=0)=true:=decide_eq_true h3
              have H3:=Hd.mk w5
              clear h3
             case' neg =>
              have w4:(f.result.kind == 0)=false:=by simp [h3]
              have w5:decide (f.result.kind=0)=false:=decide_eq_false h3
              have H3:=Hd.mk w5
           all_goals (
            go_wp2_with fail
            clear s2 s7 s8 l8
            go_loopw [10,161] (fun vo vi wr=>∃ (i:Nat) (bv:Bool),vo= .bool bv∧vi= .int .i64 i∧i≤f.params.length∧r=(bv && (f.params.drop i).all fun t=>decide (t.kind=0))∧Step (fun _=>False) W9 ρ wr ρ) (fun _ v _=>f.params.length-(intOf v).toNat)
            case atStart=>exact ⟨0,_,rfl,by simp,by omega,by rw [HMO.out];unfold mainOk;simp [H1.out,H2.out,H3.out],Step.refl _ _ _⟩
            case round =>
             obtain ⟨i,bv,rfl,rfl,hi,he,hS⟩:=hrel
             have HEi:=Hd.mk he
             have HSi:=Hd.mk hS
             clear he hS
             obtain ⟨Wi,rfl⟩:∃ W,W=wr:=⟨_,rfl⟩
             by_cases hlt:i<f.params.length
             ·have hlti:(i:Int)<f.params.length:=by omega
              have hi0:(0:Int)≤i:=by omega
              obtain ⟨bP,oP,mP,X0,x0,X1,x1,X2,x2,hPA,_,_,_,hcP⟩:=(HPAR.out.step HSi.out).elemC (List.getElem?_eq_getElem hlt)
              cases hPA
              have hdr:=allInt_drop (List.getElem?_eq_getElem hlt)
              generalize f.params[i]=x at *
              have p0:=hcP 0 _ rfl
              have p1:=hcP 1 _ rfl
              have p2:=hcP 2 _ rfl
              have p3:=hcP 3 _ rfl
              have p4:=hcP 4 _ rfl
              have p5:=hcP 5 _ rfl
              have p6:=hcP 6 _ rfl
              rw [Nat.add_zero] at p0
              have lP:bP<Wi.heap.size:=World.block_lt_of_cell? Wi ⟨bP,_,none⟩ p0
              have HDR:=Hd.mk hdr
              have HSX:=Hd.mk (HSi.out.trans ((Step.refl (fun _=>False) Wi ρ).alloc (.cells #[.int .i64 x.kind, .int .i64 x.n, .string x.name, .slice X0 x.args.length x0, .int .i64 x.region, .slice X1 x.eff.regs.length x1, .slice X2 x.eff.vars.length x2] 43)))
              clear hcP hdr
              by_cases hk:x.kind=0
              case' pos =>
               have w1:(x.kind == 0)=true:=by simp [hk]
               have w2:decide (x.kind=0)=true:=decide_eq_true hk
              case' neg =>
               have w1:(x.kind == 0)=false:=by simp [hk]
               have w2:decide (x.kind=0)=false:=decide_eq_false hk
              all_goals (
               have HW2:=Hd.mk w2
               have HK:=Hd.mk hk
               clear hk
               cases bv
               all_goals (
                go_wp2
                go_roundw
                case rel=>exact ⟨i+1,_,rfl,by go_num,by omega,by rw [HEi.out,HDR.out,HW2.out];simp,HSX.out⟩
                case measure=>simp [intOf];omega))
             ·have hie:i=f.params.length:=by omega
              have hrr:r=bv:=by
               have h1:=HEi.out
               rwa [hie,List.drop_length,List.all_nil,Bool.and_true] at h1
              subst hrr
              clear hie
              go_wp2
              go_ret
              exact ⟨rfl,(HS9.out.trans HSi.out).toBelow⟩)
    ·have hne:¬e2=sizName:=fun h=>hd2 ((str_iff e2 [83,105,122,101]).1 h)
     have HNE:=Hd.mk hne
     clear hne
     have HRF:Hd (r=false):=⟨by rw [←HR.out,HXO.out];simp [HNE.out]⟩
     have hrr:=HRF.out
     subst hrr
     go_enter Try.func12,Try.ntmps12
     go_wp2
     go_ret
     exact ⟨rfl,HS1.out.toBelow⟩
   ·have hne:¬e1=idxName:=fun h=>hd1 ((str_iff e1 [73,110,100,101,120]).1 h)
    have HNE:=Hd.mk hne
    clear hne
    have HRF:Hd (r=false):=⟨by rw [←HR.out,HXO.out];simp [HNE.out]⟩
    have hrr:=HRF.out
    subst hrr
    go_enter Try.func12,Try.ntmps12
    go_wp2
    go_ret
    exact ⟨rfl,HS1.out.toBelow⟩
  ·have hne:¬e0=divName:=fun h=>hd0 ((str_iff e0 [68,105,118]).1 h)
   have HNE:=Hd.mk hne
   clear hne
   have HRF:Hd (r=false):=⟨by rw [←HR.out,HXO.out];simp [HNE.out]⟩
   have hrr:=HRF.out
   subst hrr
   go_enter Try.func12,Try.ntmps12
   go_wp2
   go_ret
   exact ⟨rfl,HS1.out.toBelow⟩
end
section
open Go Go.RowKit
theorem manyOf_mono {ds ds':List Dat} (h:∀ (n:Nat) (d:Dat),ds[n]? =some d→ds'[n]? =some d) (hl:ds.length≤ds'.length) {k n:Int} {len:Nat} {vars:Int} {m:Nat} (hm:manyOf ds k n len vars=some m):manyOf ds' k n len vars=some m:=by
 by_cases h4:k=4
 ·subst h4
  unfold manyOf at hm ⊢
  simp only [show ¬((4:Int)=0∨(4:Int)=1∨(4:Int)=2) by omega,show ¬((4:Int)=3) by omega,if_false,if_true] at hm ⊢
  by_cases hc:n<0∨(ds.length:Int)≤n
  ·rw [if_pos hc] at hm
   cases hm
  ·rw [if_neg hc] at hm
   rw [if_neg (by omega)]
   have hg:=List.getElem?_eq_getElem (show n.toNat<ds.length by omega)
   rw [hg] at hm
   rw [h _ _ hg]
   exact hm
 ·unfold manyOf at hm ⊢
  simp only [h4,if_false] at hm ⊢
  exact hm
mutual
theorem formed1_mono {ds ds':List Dat} (h:∀ (n:Nat) (d:Dat),ds[n]? =some d→ds'[n]? =some d) (hl:ds.length≤ds'.length) (vars:Int):∀ t:Ty,formed1 ds vars t=true→formed1 ds' vars t=true
 |.mk k n name args region eff,hf=>by
  rw [formed1] at hf ⊢
  split at hf
  ·cases hf
  ·rename_i m hm
   rw [manyOf_mono h hl hm]
   simp only [Bool.and_eq_true] at hf ⊢
   exact ⟨hf.1,formedL_mono h hl vars args hf.2⟩
theorem formedL_mono {ds ds':List Dat} (h:∀ (n:Nat) (d:Dat),ds[n]? =some d→ds'[n]? =some d) (hl:ds.length≤ds'.length) (vars:Int):∀ l:List Ty,formedL ds vars l=true→formedL ds' vars l=true
 |[],_=>by rw [formedL]
 |t :: l,hf=>by
  rw [formedL,Bool.and_eq_true] at hf ⊢
  exact ⟨formed1_mono h hl vars t hf.1,formedL_mono h hl vars l hf.2⟩
end
theorem datsOk_get (al:List Dat):∀ (k:Nat) (l:List Dat),datsOk al k l=true→∀ (i:Nat) (d:Dat),l[i]? =some d→d.cons≠[]∧consOk (al.take (k+i+1)) d.vars.length d.cons=true
 |_,[],_,i,d,h=>by simp at h
 |k,x :: l,h,0,d,hd=>by
  rw [datsOk] at h
  simp only [Bool.and_eq_true,decide_eq_true_eq] at h
  simp only [List.getElem?_cons_zero,Option.some.injEq] at hd
  subst hd
  exact ⟨h.1.1,h.1.2⟩
 |k,x :: l,h,i+1,d,hd=>by
  rw [datsOk] at h
  simp only [Bool.and_eq_true,decide_eq_true_eq] at h
  have:=datsOk_get al (k+1) l h.2 i d (by simpa using hd)
  rw [show k+1+i+1=k+(i+1)+1 by omega] at this
  exact this
theorem hdP_of {p:Pg} (h:headsOk p=true):HdP p:=by
 unfold headsOk at h
 simp only [Bool.and_eq_true] at h
 obtain ⟨⟨⟨⟨⟨h1,h2⟩,h3⟩,h4⟩,h5⟩,h6⟩:=h
 refine ⟨fun d hd c hc=>?_,fun f hf=>?_⟩
 ·obtain ⟨i,hi⟩:=List.getElem?_of_mem hd
  have h7:=(datsOk_get p.datas 0 p.datas h4 i d hi).2
  unfold consOk at h7
  rw [List.all_eq_true] at h7
  refine formedL_mono (fun n x hx=>?_) (by rw [List.length_take];omega) _ _ (h7 c hc)
  rw [List.getElem?_take] at hx
  split at hx
  ·exact hx
  ·cases hx
 ·rw [List.all_eq_true] at h5
  have h7:=h5 f hf
  unfold funOk at h7
  simp only [Bool.and_eq_true] at h7
  exact ⟨h7.1.2,h7.2⟩
end
end Go.Proofs.Ytadffbgbndibpaa
