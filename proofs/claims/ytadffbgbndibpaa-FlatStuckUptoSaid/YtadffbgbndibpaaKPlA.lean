/- RnX, RnY, RnZ, PlA: lemmas and walks of the claim. -/
import Derived.Test.YtadffbgbndibpaaKRnW
import Derived.RangeFuncNested
import Derived.RangeFuncBound
import Derived.RangeFuncCalls
import Derived.RangeFuncLeaves
import Derived.Shelf.Abstract
import Derived.Shelf.RegionOpen
import Derived.WalkKit
import Derived.OwnWalkIn
import Derived.TacticsInMore
import Derived.LoopNIn
import Derived.LoopIn
set_option linter.unusedSectionVars false
set_option linter.unusedVariables false
set_option linter.unusedSimpArgs false
set_option maxHeartbeats 16000000
set_option maxRecDepth 100000
namespace Go.Proofs.Ytadffbgbndibpaa
section
open Go Go.RowKit Go.Shelf
attribute [local go_sem] Oper.semAt_some
section
variable {F:Fence} {n:Nat} {P:Program} {ops:Array Oper} {rest:List Oper} {op:Oper} {a:Act}
include F n P ops rest op a
theorem wpListIn_load_mid {w:World} {Q:Exit→Act→World→Prop} (hgd:op.guard=none) (ty:TypeId) (x:Operand) (ho:op.op= .load ty x) (b o:Nat) (hx:a.eval x= .pointer (some ⟨b,o,none⟩)) (cs:List Value) (d:TypeDesc) (hc:w.rangeAt b o cs) (hu:P.underlying ty=some d) (hd:d.isRow=true) (hi:(P.info? ty).map (·.size)=some cs.length) (h:wpListIn F n P ops Q rest (a.put op.dst (.agg cs.toArray)) w):wpListIn F n P ops Q (op :: rest) a w:=by
 refine wpListIn_plain hgd fun K hK=>?_
 unfold Oper.wpIn
 refine ⟨by simp [Oper.about,ho],?_⟩
 rw [Oper.semAt_plain F _ _ (by rw [ho];intro c hc';cases hc')]
 simp only [execOp,ho,hx,Sem.run_bind,Sem.run_pure,run_loadAt_mid w b o ty cs d hc hu hd hi,Result.andThen_ok,Oper.uponIn_value]
 exact hK _ _ h
theorem wpListIn_store_newH {W:World} {Q:Exit→Act→World→Prop} (hgd:op.guard=none) (ty:TypeId) (x y:Operand) (ho:op.op= .store ty x y) (Z cells:Array Value) (hx:a.eval x= .pointer (some ⟨W.heap.size,0,none⟩)) (hy:a.eval y= .agg cells) (hi:(P.info? ty).map (·.size)=some cells.size) (hz:Z.size=cells.size) (h1:cells.all (·.oneCell')=true) (h:Hd (wpListIn F n P ops Q rest (a.put op.dst undef) (W.alloc (.cells cells ty)))):wpListIn F n P ops Q (op :: rest) a (W.alloc (.cells Z ty)):=by
 refine wpListIn_plain hgd fun K hK=>?_
 unfold Oper.wpIn
 refine ⟨by simp [Oper.about,ho],?_⟩
 rw [Oper.semAt_plain F _ _ (by rw [ho];intro c hc';cases hc')]
 simp only [execOp,ho,hx,hy,Sem.run_bind,Sem.run_pure,run_storeAt_new (P:=P) W ty Z cells hi hz h1,Result.andThen_ok,Oper.uponIn_skip]
 exact hK _ _ h.out
end
theorem StV.one {w:World} {ρ:Ghost} {n:Nat} {s:St} {va0 v1 v2 va vt ve vr vm vk vb:Value} (hV:StV w ρ n s va0 v1 v2 va vt ve vr vm vk vb):(stCells s va0 v1 v2 va vt ve vr vm vk vb).toArray.all (·.oneCell')=true:=by
 obtain ⟨_,_,_,_,_,hty,_,_,_,_,hy0,hy1,hy2⟩:=TyR.shape hV.ty
 simp only [List.cons.injEq,and_true,true_and] at hty
 obtain ⟨rfl,rfl,rfl⟩:=hty
 obtain ⟨a0,k0,rfl,_,_⟩:=SlR.form hy0
 obtain ⟨a1,k1,rfl,_,_⟩:=SlR.form hy1
 obtain ⟨a2,k2,rfl,_,_⟩:=SlR.form hy2
 obtain ⟨a3,k3,rfl,_,_⟩:=SlR.form hV.args
 obtain ⟨a4,k4,rfl,_,_⟩:=SlR.form hV.types
 obtain ⟨a5,k5,rfl,_,_⟩:=SlR.form hV.effs
 obtain ⟨a6,k6,rfl,_,_⟩:=SlR.form hV.regs
 obtain ⟨a7,k7,rfl,_,_⟩:=SlR.form hV.modes
 obtain ⟨a8,k8,rfl,_,_⟩:=SlR.form hV.keep
 obtain ⟨a9,k9,rfl,_,_⟩:=SlR.form hV.blocks
 exact stCells_one ..
structure KeepC (bn:Nat) (W W':World):Prop where
 size:W.heap.size≤W'.heap.size
 same:∀ (k:Nat) (o:Obj),k≠bn→W.heap[k]? =some o→o.isCells=true→W'.heap[k]? =some o
theorem KeepC.refl (bn:Nat) (W:World):KeepC bn W W:=⟨Nat.le_refl _,fun _ _ _ h _=>h⟩
section
variable {bn:Nat}
include bn
theorem KeepC.trans {A B C:World} (h:KeepC bn A B) (h':KeepC bn B C):KeepC bn A C:=⟨Nat.le_trans h.size h'.size,fun k o hk h0 hc=>h'.same k o hk (h.same k o hk h0 hc) hc⟩
theorem KeepC.alloc {A B:World} (h:KeepC bn A B) (o:Obj):KeepC bn A (B.alloc o):=⟨by have:=h.size;simp;omega,fun k o' hk h0 hc=>by
 have:=h.same k o' hk h0 hc
 rw [Below.heap_alloc B o k (Array.getElem?_eq_some_iff.1 this).1,this]⟩
theorem KeepC.setCell {A B:World} (h:KeepC bn A B) (i:Nat) (v:Value):KeepC bn A (B.setCell ⟨bn,i,none⟩ v):=⟨by have:=h.size;simp;omega,fun k o' hk h0 hc=>by
 rw [Below.heap_setCell B ⟨bn,i,none⟩ v k hk,h.same k o' hk h0 hc]⟩
theorem KeepC.putObj (W:World) (l:Nat) (o o':Obj) (h:W.heap[l]? =some o) (hc:o.isCells=false):KeepC bn W (W.putObj l o'):=⟨by
 show W.heap.size≤(W.putObj l o').heap.size
 simp [World.putObj],fun k q hk h0 hq=>by
 have hne:k≠l:=by
  rintro rfl
  rw [h] at h0
  cases h0
  rw [hc] at hq
  cases hq
 exact (World.putObj_heap_other hne).trans h0⟩
theorem KeepC.blk {A B:World} (h:KeepC bn A B) {b:Nat} {T:TypeId} {L:List Value} (hb:Blk A b T L) (hne:b≠bn):Blk B b T L:=h.same b _ hne hb rfl
theorem KeepC.cell {A B:World} (h:KeepC bn A B) {a:Addr} {v:Value} (hne:a.block≠bn) (hc:A.cell? a=some v):B.cell? a=some v:=by
 unfold World.cell? at hc ⊢
 split at hc
 ·rename_i c e fr hh
  rw [h.same _ _ hne hh rfl]
  exact hc
 ·cases hc
end
theorem KeepC.of_below {bn n:Nat} {A B:World} (h:Below n A B) (hn:A.heap.size≤n):KeepC bn A B:=⟨h.size,fun k o hk h0 hc=>by
 have:=(Array.getElem?_eq_some_iff.1 h0).1
 rw [h.block k (by omega),h0]⟩
theorem each_any (w:World) (u0 u1 u2 u3:Value):Calls Try.prog 29 #[.agg #[u0,u1,u2,u3]] w fun e w'=>e= .returned (.func (.func 36) #[] #[.pointer (some ⟨w.heap.size,0,none⟩)])∧w'=w.alloc (.cells #[u0,u1,u2,u3] 46):=by
 go_enter Try.func29,Try.ntmps29
 go_wp2
 go_ret
 exact ⟨rfl,rfl⟩
structure WkT (w:World) (ρ:Ghost):Type where
 st:St
 cs:List Value
 ok:∃ n va0 v1 v2 va vt ve vr vm vk vb,StV w ρ n st va0 v1 v2 va vt ve vr vm vk vb∧cs=stCells st va0 v1 v2 va vt ve vr vm vk vb
def WkT.enc {w:World} {ρ:Ghost} (x:WkT w ρ):Array Value:= #[.agg x.cs.toArray]
def WkP (bn:Nat) {w:World} {ρ:Ghost} (J Jx:List (WkT w ρ)→World→Prop) (pre:List (WkT w ρ)) (l:List St) (W:World) (e:Ending) (W':World):Prop :=
 (e= .returned (.bool true)∧∃ xs:List (WkT w ρ),xs.map WkT.st=l∧J (pre++xs) W'∧KeepC bn W W')∨(e= .returned (.bool false)∧∃ xs:List (WkT w ρ),xs.map WkT.st <+: l∧Jx (pre++xs) W')
def WkQ (F:Fence) (l N bn:Nat) {w:World} {ρ:Ghost} (J Jx:List (WkT w ρ)→World→Prop) (b:Bk):Prop :=
 ∀ (n m:Nat) (pre:List (WkT w ρ)) (W:World) (u0 u1 u2 u3:Value),BkR w ρ m b [u0,u1,u2,u3]→KeepC bn w W→bn<W.heap.size→J pre W→pre.length+(wkB b).length≤N →
  CallsIn F n Try.prog 37 #[.agg #[u0,u1,u2,u3], .func (.yield l) #[] #[]] W (WkP bn J Jx pre (wkB b) W)
theorem wkSs_take (l:List St) (k:Nat) (s:St) (h:l[k]? =some s):wkSs (l.take (k+1))=wkSs (l.take k)++(s :: wkBs s.blocks):=by
 induction l generalizing k with
 |nil=>simp at h
 |cons a l ih =>
  cases k with
  |zero =>
   simp only [List.getElem?_cons_zero,Option.some.injEq] at h
   subst h
   cases a
   simp [wkSs,wkS,St.blocks]
  |succ k =>
   simp only [List.getElem?_cons_succ] at h
   rw [List.take_succ_cons,List.take_succ_cons,wkSs,wkSs,ih k h,List.append_assoc]
theorem wkBs_take (l:List Bk) (k:Nat) (b:Bk) (h:l[k]? =some b):wkBs (l.take (k+1))=wkBs (l.take k)++wkB b:=by
 induction l generalizing k with
 |nil=>simp at h
 |cons a l ih =>
  cases k with
  |zero =>
   simp only [List.getElem?_cons_zero,Option.some.injEq] at h
   subst h
   simp [wkBs]
  |succ k =>
   simp only [List.getElem?_cons_succ] at h
   rw [List.take_succ_cons,List.take_succ_cons,wkBs,wkBs,ih k h,List.append_assoc]
theorem wkSs_len (l:List St) (k:Nat):(wkSs (l.take k)).length≤(wkSs l).length:=by
 induction l generalizing k with
 |nil=>simp [wkSs]
 |cons a l ih =>
  cases k with
  |zero=>simp [wkSs]
  |succ k =>
   rw [List.take_succ_cons,wkSs,wkSs,List.length_append,List.length_append]
   have:=ih k
   omega
theorem wkBs_len (l:List Bk) (k:Nat):(wkBs (l.take k)).length≤(wkBs l).length:=by
 induction l generalizing k with
 |nil=>simp [wkBs]
 |cons a l ih =>
  cases k with
  |zero=>simp [wkBs]
  |succ k =>
   rw [List.take_succ_cons,wkBs,wkBs,List.length_append,List.length_append]
   have:=ih k
   omega
theorem wkSs_pre:∀ (l:List St) (k:Nat),wkSs (l.take k) <+: wkSs l
 |[],k=>by simp
 |a :: l,0=>by simp [wkSs]
 |a :: l,k+1=>by
  rw [List.take_succ_cons,wkSs,wkSs]
  exact (List.prefix_append_right_inj _).2 (wkSs_pre l k)
theorem wkBs_pre:∀ (l:List Bk) (k:Nat),wkBs (l.take k) <+: wkBs l
 |[],k=>by simp
 |a :: l,0=>by simp [wkBs]
 |a :: l,k+1=>by
  rw [List.take_succ_cons,wkBs,wkBs]
  exact (List.prefix_append_right_inj _).2 (wkBs_pre l k)
theorem wrap_succ {k n:Nat} (h:k<n) (hn:n≤9223372036854775807):wrap64 ((k:Int)+1)=((k+1:Nat):Int):=by unfold wrap64;omega
theorem measure_succ {k n:Nat} (h:k<n) (hn:n≤9223372036854775807):n-(intOf (.int .i64 (wrap64 ((k:Int)+1)))).toNat<n-(intOf (.int .i64 (k:Int))).toNat:=by
 rw [wrap_succ h hn]
 simp [intOf]
 omega
theorem room_of_none {F:Fence} (hd:F.depth=none) (k:Nat):F.room k:=fun d h=>by rw [hd] at h;cases h
theorem yieldAt_any {F:Fence} (hd:F.depth=none) {m:Nat} (m':Nat) {P:Program} {l:Nat} {args:Array Value} {W:World} {R:Ending→World→Prop} (h:YieldAt F m P l args W R):YieldAt F m' P l args W R:=by
 obtain ⟨fn,tmps,assign,body,hy,hR⟩:=h
 exact ⟨fn,tmps,assign,body,hy,hR.1,fun c cs _=>hR.2 c cs (room_of_none hd _)⟩
theorem walk_of (F:Fence) (hd:F.depth=none) (hF:F.fn 37) (hro:F.round=none) (l N bn:Nat) {w:World} {ρ:Ghost} (hbn:w.heap.size≤bn) (J Jx:List (WkT w ρ)→World→Prop) {nj:Nat} (hJ:AbidesFrom nj J) (hY:∀ m pre (x:WkT w ρ) W,J pre W→pre.length<N→YieldAt F m Try.prog l x.enc W fun e W'=>(e= .returned (.bool true)∧J (pre++[x]) W'∧KeepC bn W W')∨(e= .returned (.bool false)∧Jx (pre++[x]) W')) (b:Bk) (hQ:∀ s,s ∈ b.steps→∀ c,c ∈ s.blocks→WkQ F l N bn J Jx c):WkQ F l N bn J Jx b:=by
 intro n m pre W u0 u1 u2 u3 hb hW hbW hJ0 hN
 obtain ⟨m',vb,vs,hm,hcs,i1,i2,h3,h4⟩:=hb.shape
 simp only [List.cons.injEq,and_true] at hcs
 obtain ⟨rfl,rfl,rfl,rfl⟩:=hcs
 obtain ⟨B2,k2,rfl,hlm1,hlm2⟩:=SlR.form h4
 simp only [maxLen] at hlm2
 have HLS:Hd (b.steps.length≤9223372036854775807):=⟨by omega⟩
 clear hlm1 hlm2
 have hdd:∀ k:Nat,(F.depth.isSome=true→1≤k):=fun k h=>by rw [hd] at h;cases h
 have HW:=Hd.mk hW
 have HJ0:=Hd.mk hJ0
 have HJ:=Hd.mk hJ
 have HY:=Hd.mk hY
 have HQ:=Hd.mk hQ
 have HN:=Hd.mk hN
 have HST:=Hd.mk h4
 have HM:=Hd.mk hm
 have HBW:=Hd.mk hbW
 have HBN:=Hd.mk hbn
 clear hW hJ0 hJ hY hQ hN h4 h3 i1 i2 hb hm hbW hbn
 refine callsIn_of_wp Try.func37 rfl hF ?_ hro
 simp only [Try.ntmps37,List.size_toArray,List.length_cons,List.length_nil,Nat.reduceAdd,Nat.reduceSub,Array.replicate_succ,Array.replicate_zero,List.push_toArray,List.append_toArray,List.nil_append,List.cons_append]
 gi_wp2
 have hJ1:=HJ.out _ _ _ none HJ0.out (World.grownBy_alloc W (.cells #[.int .i64 b.code,u1, .slice B2 b.steps.length k2, .int .i64 b.value] 46) none) (fun r e=>by cases e)
 have hW1:KeepC bn W (W.alloc (.cells #[.int .i64 b.code,u1, .slice B2 b.steps.length k2, .int .i64 b.value] 46)):=(KeepC.refl bn W).alloc _
 have HJ1:=Hd.mk hJ1
 have HW1:=Hd.mk hW1
 clear hJ1 hW1
 generalize W.alloc (.cells #[.int .i64 b.code,u1, .slice B2 b.steps.length k2, .int .i64 b.value] 46)=W1 at *
 gi_loopw [12] (fun vk wr=>∃ (k:Nat) (xs:List (WkT w ρ)),vk= .int .i64 k∧k≤b.steps.length∧xs.map WkT.st=wkSs (b.steps.take k)∧J (pre++xs) wr∧KeepC bn W wr) (fun v _=>b.steps.length-(intOf v).toNat)
 case atStart=>exact ⟨0,[],rfl,by omega,by rw [List.take_zero,wkSs];rfl,by rw [List.append_nil];exact HJ1.out,HW1.out⟩
 case round =>
  obtain ⟨k,xs,rfl,hk,hxs,hJk,hWk⟩:=hrel
  by_cases hlt:k<b.steps.length
  ·have hlti:(k:Int)<b.steps.length:=by omega
   have hkz:(0:Int)≤k:=by omega
   have hxx:=List.getElem?_eq_getElem hlt
   obtain ⟨A',c',h1,h2',h3',h4',h5'⟩:=HST.out.out
   cases h1
   obtain ⟨sb,so,cs0,rfl,e2,e3,e4,e5,e6⟩:=h5' k _ hxx
   generalize hs:b.steps[k]=s at *
   obtain ⟨va0,v1,v2,va,vt,ve,vr,vm,vk,vb',rfl,hV⟩:=e5.shape
   have hone:=hV.one
   have hbl:=hV.blocks
   obtain ⟨B3,k3,rfl,hlm3,hlm4⟩:=SlR.form hbl
   simp only [maxLen] at hlm4
   have HLB:Hd (s.blocks.length≤9223372036854775807):=⟨by omega⟩
   clear hlm3 hlm4
   have HBL:=Hd.mk hbl
   have hB:=HW.out.trans hWk
   have hne:sb≠bn:=by have:=HBN.out;omega
   have hc:wr.rangeAt sb (so+k*19) (stCells s va0 v1 v2 va vt ve vr vm vk (.slice B3 s.blocks.length k3)):=fun j v hv=>hB.cell (a:=⟨sb,_,none⟩) hne (e6 j v hv)
   have hin:(Try.prog.info? 94).map (·.size)=some 19:=by kernel_rfl
   have hx0:∃ x:WkT w ρ,x.enc= #[.agg (stCells s va0 v1 v2 va vt ve vr vm vk (.slice B3 s.blocks.length k3)).toArray]∧x.st=s:=⟨⟨s,_,m',va0,v1,v2,va,vt,ve,vr,vm,vk,_,hV,rfl⟩,rfl,rfl⟩
   have h18:(stCells s va0 v1 v2 va vt ve vr vm vk (.slice B3 s.blocks.length k3))[18]? =some (.slice B3 s.blocks.length k3):=rfl
   generalize hcs:stCells s va0 v1 v2 va vt ve vr vm vk (.slice B3 s.blocks.length k3)=cs at hc hone hx0 h18
   have hcl:cs.length=19:=by rw [←hcs];rfl
   obtain ⟨x,hxe,hxst⟩:=hx0
   have hin2:(Try.prog.info? 94).map (·.size)=some cs.length:=by rw [hcl];exact hin
   have HSZ:Hd (cs.toArray.size=19):=⟨by rw [List.size_toArray,hcl]⟩
   have HCC:Hd (wr.rangeAt sb (so+k*19) cs):=⟨hc⟩
   have HIN:=Hd.mk hin2
   have HON:=Hd.mk hone
   have H18:=Hd.mk h18
   have HXE:=Hd.mk hxe
   have HXST:=Hd.mk hxst
   have hblk:Blk (wr.alloc (.cells cs.toArray 94)) wr.heap.size 94 cs:=by
    have:=Blk.new' wr cs.toArray 94
    exact this
   have hbr:bn<wr.heap.size:=Nat.lt_of_lt_of_le HBW.out hWk.size
   have hne2:wr.heap.size≠bn:=by omega
   have hJ2:=HJ.out _ _ _ none hJk (World.grownBy_alloc wr (.cells cs.toArray 94) none) (fun r e=>by cases e)
   have hKa:KeepC bn wr (wr.alloc (.cells cs.toArray 94)):=(KeepC.refl bn wr).alloc _
   have HNE2:=Hd.mk hne2
   have HJ2:=Hd.mk hJ2
   have HKA:=Hd.mk hKa
   have HBLK:=Hd.mk hblk
   have HXS:=Hd.mk hxs
   have HWK:=Hd.mk hWk
   have HXX:=Hd.mk hxx
   have HBR:=Hd.mk hbr
   have lsb:sb<wr.heap.size:=Nat.lt_of_lt_of_le e3 hB.size
   have HB:=Hd.mk hB
   clear hne hc hin hin2 hone h18 hxe hxst hblk hne2 hJ2 hKa hxs hWk hxx hbr hB hV hbl h5' e4 e5 e6 h2' h3' h4' hs hcl hJk hcs
   gi_wp2_with (first|(refine wpListIn_load_mid rfl 94 _ rfl sb (so+k*19) rfl cs _ HCC.out Try.underlying94 rfl HIN.out ?_)|(refine wpListIn_store_newH rfl 94 _ _ rfl _ cs.toArray rfl rfl (by rw [List.size_toArray];exact HIN.out) (by exact (Eq.trans rfl HSZ.out.symm)) HON.out ?_))
   refine ⟨?_⟩
   generalize wr.alloc (.cells cs.toArray 94)=W2 at *
   have lW2:wr.heap.size<W2.heap.size:=HBLK.out.lt
   generalize wr.heap.size=Xs at *
   have hlen:(pre++xs).length<N:=by
    have h1:=HN.out
    have h2:=congrArg List.length HXS.out
    rw [List.length_map] at h2
    have h3:=wkSs_len b.steps (k+1)
    rw [wkSs_take _ _ _ HXX.out,List.length_append,List.length_cons] at h3
    have h4:(wkB b).length=(wkSs b.steps).length:=by cases b;rw [wkB];rfl
    rw [List.length_append]
    omega
   have hr2:W2.rangeAt Xs 0 cs:=fun j v hv=>by rw [Nat.zero_add];exact HBLK.out.cell hv
   have HR2:=Hd.mk hr2
   obtain ⟨fn,tmps,assign,body,hy,hR⟩:=HY.out (n-1) _ x W2 HJ2.out hlen
   rw [HXE.out] at hy
   clear hr2 hlen
   gi_wp2_with (first|(refine wpListIn_load_mid rfl 94 _ rfl Xs 0 rfl cs _ HR2.out Try.underlying94 rfl HIN.out ?_)|((try refine ⟨hdd _,?_⟩);refine hR.mono ?_;clear hR;rintro e W3 (⟨rfl,hJ3,hk3⟩|⟨rfl,hJx3⟩);have f18:W3.cell? ⟨Xs,18,none⟩=some (.slice B3 s.blocks.length k3):=(hk3.blk HBLK.out HNE2.out).cell H18.out;have HJ3:=Hd.mk hJ3;have HK3:=Hd.mk hk3;clear hJ3 hk3))
   ·have hW3:=(HWK.out.trans HKA.out).trans HK3.out
    have HW3:=Hd.mk hW3
    have lW3:=hW3.size
    clear hW3
    gi_loopw [23] (fun vk wr3=>∃ (i:Nat) (ys:List (WkT w ρ)),vk= .int .i64 i∧i≤s.blocks.length∧ys.map WkT.st=wkBs (s.blocks.take i)∧J (pre++xs++[x]++ys) wr3∧KeepC bn W wr3) (fun v _=>s.blocks.length-(intOf v).toNat)
    case atStart=>exact ⟨0,[],rfl,by omega,by rw [List.take_zero,wkBs];rfl,by rw [List.append_nil];exact HJ3.out,HW3.out⟩
    case round =>
     obtain ⟨i,ys,rfl,hi,hys,hJi,hWi⟩:=hrel
     by_cases hlt2:i<s.blocks.length
     ·have hlti2:(i:Int)<s.blocks.length:=by omega
      have hiz:(0:Int)≤i:=by omega
      have hyy:=List.getElem?_eq_getElem hlt2
      obtain ⟨A',c',h1,h2',h3',h4',h5'⟩:=HBL.out.out
      cases h1
      obtain ⟨cb,co,cs1,rfl,e2',e3',e4',e5',e6'⟩:=h5' i _ hyy
      generalize hs:s.blocks[i]=c at *
      have e5'':=e5'
      obtain ⟨m2,va1,va2,_,rfl,_,_,hI3,hI4⟩:=e5'.shape
      obtain ⟨C1,d1,rfl,_,_⟩:=SlR.form hI3
      obtain ⟨C2,d2,rfl,_,_⟩:=SlR.form hI4
      have hB2:=HW.out.trans hWi
      have hne3:cb≠bn:=fun e=>by have:=HBN.out;rw [e] at e3';exact absurd e3' (Nat.not_lt.2 this)
      have g0:wr.cell? ⟨cb,co+i*4,none⟩=some (.int .i64 c.code):=hB2.cell (a:=⟨cb,_,none⟩) hne3 (e6' 0 _ rfl)
      have g1:wr.cell? ⟨cb,co+i*4+1,none⟩=some (.slice C1 c.bind.length d1):=hB2.cell (a:=⟨cb,_,none⟩) hne3 (e6' 1 _ rfl)
      have g2:wr.cell? ⟨cb,co+i*4+2,none⟩=some (.slice C2 c.steps.length d2):=hB2.cell (a:=⟨cb,_,none⟩) hne3 (e6' 2 _ rfl)
      have g3:wr.cell? ⟨cb,co+i*4+3,none⟩=some (.int .i64 c.value):=hB2.cell (a:=⟨cb,_,none⟩) hne3 (e6' 3 _ rfl)
      have hJ4:=HJ.out _ _ _ none hJi (World.grownBy_alloc wr (.cells #[.int .i64 c.code, .slice C1 c.bind.length d1, .slice C2 c.steps.length d2, .int .i64 c.value] 46) none) (fun r e=>by cases e)
      have hK4:KeepC bn W (wr.alloc (.cells #[.int .i64 c.code, .slice C1 c.bind.length d1, .slice C2 c.steps.length d2, .int .i64 c.value] 46)):=hWi.alloc _
      have lcb:cb<wr.heap.size:=Nat.lt_of_lt_of_le e3' hB2.size
      have hN2:(pre++xs++[x]++ys).length+(wkB c).length≤N:=by
       have h1:=HN.out
       have h2:=congrArg List.length HXS.out
       have h3:=congrArg List.length hys
       rw [List.length_map] at h2 h3
       have h4:=wkSs_len b.steps (k+1)
       rw [wkSs_take _ _ _ HXX.out,List.length_append,List.length_cons] at h4
       have h5:=wkBs_len s.blocks (i+1)
       rw [wkBs_take _ _ _ hyy,List.length_append] at h5
       have h6:(wkB b).length=(wkSs b.steps).length:=by cases b;rw [wkB];rfl
       simp only [List.length_append,List.length_singleton]
       omega
      have hQ2:=HQ.out s (List.mem_of_getElem? HXX.out) c (List.mem_of_getElem? hyy) (n-1) _ _ _ _ _ _ _ e5'' (HW.out.trans hK4) (Nat.lt_of_lt_of_le HBW.out hK4.size) hJ4 hN2
      have HQ2:=Hd.mk hQ2
      have HK4:=Hd.mk hK4
      have HYS:=Hd.mk hys
      have HYY:=Hd.mk hyy
      have HWI:=Hd.mk hWi
      clear hne3 hQ2 hK4 hys hyy hWi hJ4 hJi hN2 hB2 h5' e4' e5' e5'' e6' h2' h3' h4' hs hI3 hI4
      gi_wp2_with ((try refine ⟨hdd _,?_⟩);gi_at_call 37;refine HQ2.out.mono ?_;clear HQ2;rintro e W5 (⟨rfl,zs,hzs,hJ5,hK5⟩|⟨rfl,zs,hzs,hJx5⟩);have HJ5:=Hd.mk hJ5;have HK5:=Hd.mk hK5;clear hJ5 hK5)
      all_goals (have HZS:=Hd.mk hzs;clear hzs)
      ·go_roundw
       case rel =>
        have hw:=wrap_succ hlt2 HLB.out
        exact ⟨i+1,ys++zs,by first|rw [hw]|exact congrArg _ hw,hlt2,by rw [List.map_append,HYS.out,HZS.out,wkBs_take _ _ _ HYY.out],by rw [←List.append_assoc];exact HJ5.out,HK4.out.trans HK5.out⟩
       case measure=>exact measure_succ hlt2 HLB.out
      ·go_ret
       refine .inr ⟨rfl,xs++[x]++ys++zs,?_,by simpa [List.append_assoc] using hJx5⟩
       rw [List.map_append,List.map_append,List.map_append,HXS.out,HYS.out,show List.map WkT.st [x]=[s] by simp [HXST.out]]
       refine (List.prefix_append_right_inj _).2 HZS.out |>.trans ?_
       rw [List.append_assoc, ←wkBs_take _ _ _ HYY.out,List.append_assoc]
       refine ((List.prefix_append_right_inj _).2 ((List.prefix_append_right_inj _).2 (wkBs_pre s.blocks (i+1)))).trans ?_
       rw [show [s]++wkBs s.blocks=s :: wkBs s.blocks from rfl, ←wkSs_take _ _ _ HXX.out]
       have h6:wkB b=wkSs b.steps:=by cases b;rw [wkB];rfl
       rw [h6]
       exact wkSs_pre b.steps (k+1)
     ·have hnlt2:¬((i:Int)<s.blocks.length):=by omega
      have HYS:=Hd.mk hys
      have HJI:=Hd.mk hJi
      have HWI:=Hd.mk hWi
      have HIE:Hd (i=s.blocks.length):=⟨by omega⟩
      clear hys hJi hWi hi hlt2
      gi_wp2
      go_roundw
      case rel =>
       have hy:=HYS.out
       rw [HIE.out,List.take_length] at hy
       have hw:=wrap_succ hlt HLS.out
       exact ⟨k+1,xs++[x]++ys,by first|rw [hw]|exact congrArg _ hw,hlt,by rw [List.map_append,List.map_append,HXS.out,hy,wkSs_take _ _ _ HXX.out,List.append_assoc];simp [HXST.out],by simpa [List.append_assoc] using HJI.out,HWI.out⟩
      case measure=>exact measure_succ hlt HLS.out
   ·go_ret
    refine .inr ⟨rfl,xs++[x],?_,by simpa [List.append_assoc] using hJx3⟩
    rw [List.map_append,HXS.out,show List.map WkT.st [x]=[s] by simp [HXST.out]]
    have h6:wkB b=wkSs b.steps:=by cases b;rw [wkB];rfl
    rw [h6]
    refine List.IsPrefix.trans ?_ (wkSs_pre b.steps (k+1))
    rw [wkSs_take _ _ _ HXX.out]
    exact (List.prefix_append_right_inj _).2 ⟨_,rfl⟩
  ·have hnlt:¬((k:Int)<b.steps.length):=by omega
   have HXS:=Hd.mk hxs
   have HJK:=Hd.mk hJk
   have HWK:=Hd.mk hWk
   have HKE:Hd (k=b.steps.length):=⟨by omega⟩
   clear hxs hJk hWk hk hlt
   gi_wp2
   go_ret
   have hx:=HXS.out
   rw [HKE.out,List.take_length] at hx
   exact .inl ⟨rfl,xs,by rw [hx];cases b;rw [wkB];rfl,HJK.out,HWK.out⟩
end
section
open Go Go.RowKit Go.Shelf
attribute [local go_sem] Oper.semAt_some
mutual
def dB:Bk→Nat
 |.mk _ _ steps _=>1+dSs steps
def dSs:List St→Nat
 |[]=>0
 |s :: l=>dS s+dSs l
def dS:St→Nat
 |.mk _ _ _ _ _ _ _ _ _ _ _ _ blocks=>dBs blocks
def dBs:List Bk→Nat
 |[]=>0
 |b :: l=>dB b+dBs l
end
theorem dBs_mem:∀ {l:List Bk} {b:Bk},b ∈ l→dB b≤dBs l
 |[],_,h=>by cases h
 |a :: l,b,h=>by
  rw [dBs]
  rcases List.mem_cons.1 h with rfl|h
  ·omega
  ·have:=dBs_mem h
   omega
theorem dSs_mem:∀ {l:List St} {s:St},s ∈ l→dS s≤dSs l
 |[],_,h=>by cases h
 |a :: l,b,h=>by
  rw [dSs]
  rcases List.mem_cons.1 h with rfl|h
  ·omega
  ·have:=dSs_mem h
   omega
theorem dB_inner {b c:Bk} {s:St} (hs:s ∈ b.steps) (hc:c ∈ s.blocks):dB c<dB b:=by
 have h1:=dBs_mem hc
 have h2:=dSs_mem hs
 have h3:dS s=dBs s.blocks:=by cases s;rw [dS];rfl
 have h4:dB b=1+dSs b.steps:=by cases b;rw [dB];rfl
 omega
theorem walk_n (F:Fence) (hd:F.depth=none) (hF:F.fn 37) (hro:F.round=none) (l N bn:Nat) {w:World} {ρ:Ghost} (hbn:w.heap.size≤bn) (J Jx:List (WkT w ρ)→World→Prop) {nj:Nat} (hJ:AbidesFrom nj J)
 (hY:∀ m pre (x:WkT w ρ) W,J pre W→pre.length<N→YieldAt F m Try.prog l x.enc W fun e W'=>(e= .returned (.bool true)∧J (pre++[x]) W'∧KeepC bn W W')∨(e= .returned (.bool false)∧Jx (pre++[x]) W')):∀ (n:Nat) (b:Bk),dB b≤n→WkQ F l N bn J Jx b
 |0,b,h=>by cases b;rw [dB] at h;omega
 |n+1,b,h=>walk_of F hd hF hro l N bn hbn J Jx hJ hY b fun s hs c hc=>walk_n F hd hF hro l N bn hbn J Jx hJ hY n c (by have:=dB_inner hs hc;omega)
section
variable (F:Fence) (hd:F.depth=none) (hF:F.fn 37) (hF1:F.fn 36) (hro:F.round=none)
include F hd hF hF1 hro
theorem each1_in (n l bn Bb:Nat) {w:World} {ρ:Ghost} (hbn:w.heap.size≤bn) (J Jx:List (WkT w ρ)→World→Prop) {nj:Nat} (hJ:AbidesFrom nj J) (b:Bk) (hY:∀ pre (x:WkT w ρ) W,J pre W→pre.length<(wkB b).length→YieldAt F (n-1) Try.prog l x.enc W fun e W'=>(e= .returned (.bool true)∧J (pre++[x]) W'∧KeepC bn W W')∨(e= .returned (.bool false)∧Jx (pre++[x]) W')) (W:World) (m:Nat) (u0 u1 u2 u3:Value) (hb:BkR w ρ m b [u0,u1,u2,u3]) (hW:KeepC bn w W) (hbW:bn<W.heap.size) (hB:Blk W Bb 46 [u0,u1,u2,u3]) (h0:J [] W) :
 CallsIn F n Try.prog 36 #[.func (.yield l) #[] #[], .pointer (some ⟨Bb,0,none⟩)] W fun e W'=>(∃ v,e= .returned v) ∧
  ((∃ ys,ys.map WkT.st=wkB b∧J ys W')∨(∃ pre,pre.map WkT.st <+: wkB b∧Jx pre W')):=by
 have hdd:∀ k:Nat,(F.depth.isSome=true→1≤k):=fun k h=>by rw [hd] at h;cases h
 have hp:=Hd.mk (walk_n F hd hF hro l (wkB b).length bn hbn J Jx hJ (fun m pre x W hj hl=>yieldAt_any hd m (hY pre x W hj hl)) (dB b) b (Nat.le_refl _) (n-1) m [] W u0 u1 u2 u3 hb hW hbW h0 (by simp))
 have c0:=hB.cell (i:=0) rfl
 have c1:=hB.cell (i:=1) rfl
 have c2:=hB.cell (i:=2) rfl
 have c3:=hB.cell (i:=3) rfl
 obtain ⟨m',vb,vs,hm,hcs,i1,i2,h3,h4⟩:=hb.shape
 simp only [List.cons.injEq,and_true] at hcs
 obtain ⟨rfl,rfl,rfl,rfl⟩:=hcs
 obtain ⟨B1,k1,rfl,_,_⟩:=SlR.form h3
 obtain ⟨B2,k2,rfl,_,_⟩:=SlR.form h4
 clear hb hm i1 i2 h3 h4 hB hW hbW h0 hY hJ
 refine callsIn_of_wp Try.func36 rfl hF1 ?_ hro
 simp only [Try.ntmps36,List.size_toArray,List.length_cons,List.length_nil,Nat.reduceAdd,Nat.reduceSub,Array.replicate_succ,Array.replicate_zero,List.push_toArray,List.append_toArray,List.nil_append,List.cons_append]
 gi_wp2_with ((try refine ⟨hdd _,?_⟩);gi_at_call 37;refine hp.out.mono ?_;clear hp;rintro e W1 (⟨rfl,xs,hxs,hJ1,_⟩|⟨rfl,xs,hxs,hx⟩))
 ·go_end0
  exact ⟨⟨_,rfl⟩, .inl ⟨xs,hxs,by simpa using hJ1⟩⟩
 ·go_end0
  exact ⟨⟨_,rfl⟩, .inr ⟨xs,hxs,by simpa using hx⟩⟩
theorem each_stops (n bn Bb:Nat) {w0:World} {ρ:Ghost} (hbn:w0.heap.size≤bn) (b:Bk) (w:World) (m:Nat) (u0 u1 u2 u3:Value) (hb:BkR w0 ρ m b [u0,u1,u2,u3]) (hw:KeepC bn w0 w) (hbw:bn<w.heap.size) (hB:Blk w Bb 46 [u0,u1,u2,u3]) :
 SeqStopsK F n Try.prog 36 #[.pointer (some ⟨Bb,0,none⟩)] (fun x:WkT w0 ρ=>x.enc) (KeepC bn) (fun ys=>ys.map WkT.st=wkB b) (fun pre=>pre.map WkT.st <+: wkB b) (wkB b).length w:=fun l J Jx W hW hJ _ hY h0 =>
 each1_in F hd hF hF1 hro n l bn Bb hbn J Jx hJ b hY W m u0 u1 u2 u3 hb (hw.trans (KeepC.of_below hW (Nat.le_refl _))) (Nat.lt_of_lt_of_le hbw hW.size) (hB.of_heap (hW.block Bb hB.lt)) h0
end
end
section
open Go Go.RowKit Go.Shelf
attribute [local go_sem] Oper.semAt_some
theorem wpListIn_max {F:Fence} {n:Nat} {P:Program} {ops:Array Oper} {rest:List Oper} {o:Oper} {a:Act} {w:World} {Q:Exit→Act→World→Prop} (hgd:o.guard=none) (x y:Operand) (t t':TypeId) (hop:o.op=Op.call { callee:=Callee.builtin Builtin.max,args:= #[x,y],argTypes:= #[t,t'] }) (p q:Int) (hx:a.eval x= .int .i64 p) (hy:a.eval y= .int .i64 q) (h:wpListIn F n P ops Q rest (a.put o.dst (.int .i64 (max p q))) w):wpListIn F n P ops Q (o :: rest) a w:=by
 refine wpListIn_plain hgd fun K hK=>?_
 unfold Oper.wpIn
 refine ⟨by simp [Oper.about,hop,resolve,Target.leads,Sem.run_pure],?_⟩
 rw [Oper.semAt_plain F _ _ (by rw [hop];intro c hc';cases hc')]
 have hm:(Builtin.max_ #[t,t'] o.type #[.int .i64 p, .int .i64 q]).run P w= .ok (.int .i64 (max p q)) w:=by
  simp [Builtin.max_,Builtin.max2]
  split
  ·rw [Int.max_eq_right (by omega)]
  ·rw [Int.max_eq_left (by omega)]
 simp [execOp,hop,resolve,invoke,builtin,hx,hy,hm,Result.andThen]
 exact hK _ _ h
theorem measure_plus {k n:Nat} (h:k<n):n-(intOf (.int .i64 ((k:Int)+1))).toNat<n-(intOf (.int .i64 (k:Int))).toNat:=by
 simp [intOf]
 omega
def binW (n:Int) (l:List Int):Int:=l.foldl (fun n x=>max n (wrap64 (x+1))) n
def blkW (n:Int) (l:List Bk):Int:=l.foldl (fun n c=>binW n c.bind) n
def stpW (n:Int) (s:St):Int:=blkW (max n (wrap64 (s.out+1))) s.blocks
def lisW (n:Int) (l:List St):Int:=l.foldl stpW n
theorem binW_snoc (n:Int) (l:List Int) (i:Nat) (x:Int) (h:l[i]? =some x):binW n (l.take (i+1))=max (binW n (l.take i)) (wrap64 (x+1)):=by
 rw [List.take_add_one,h]
 simp [binW]
theorem blkW_snoc (n:Int) (l:List Bk) (i:Nat) (c:Bk) (h:l[i]? =some c):blkW n (l.take (i+1))=binW (blkW n (l.take i)) c.bind:=by
 rw [List.take_add_one,h]
 simp [blkW]
theorem lisW_snoc (n:Int) (l:List St) (s:St):lisW n (l++[s])=stpW (lisW n l) s:=by simp [lisW]
structure Rnd (bn B:Nat) (w W W':World):Prop where
 from':KeepsFrom B W W'
 keep:KeepC bn W W'
 below:Below w.heap.size w W'
theorem Rnd.alloc {bn B:Nat} {w W W':World} (h:Rnd bn B w W W') (o:Obj):Rnd bn B w W (W'.alloc o) :=
 ⟨h.from'.trans ((KeepsOthers.alloc _ _).from _),h.keep.alloc _,h.below.alloc h.below.size _⟩
theorem Rnd.set {bn B:Nat} {w W W':World} (h:Rnd bn B w W W') (hn:w.heap.size≤bn) (v:Value):Rnd bn B w W (W'.setCell ⟨bn,0,none⟩ v) :=
 ⟨h.from'.trans ((KeepsOthers.setCell _ _ _).from _),h.keep.setCell _ _,h.below.setCell (p:=⟨bn,0,none⟩) hn _⟩
theorem blk_own {β:Type} (B:Nat) (t:TypeId) (f:β→List Value):Own (fun s W=>Blk W B t (f s)):=fun s X Y row hs hg hrow=>by
 have hne:some B≠row:=fun e=>by
  obtain ⟨o,ho,hc⟩:=hrow B e.symm
  rw [show X.heap[B]? =_ from hs] at ho
  cases ho
  cases hc
 exact (hg.block B hs.lt hne).trans hs
theorem WkT.facts {w:World} {ρ:Ghost} (x:WkT w ρ):x.cs.toArray.all (·.oneCell')=true∧x.cs.length=19∧x.cs[1]? =some (.int .i64 x.st.out)∧∃ n B k,x.cs[18]? =some (.slice B x.st.blocks.length k)∧BksR w ρ n (.slice B x.st.blocks.length k) x.st.blocks:=by
 obtain ⟨s,cs,n,va0,v1,v2,va,vt,ve,vr,vm,vk,vb,hV,hcs⟩:=x
 obtain ⟨B,k,rfl,_,_⟩:=SlR.form hV.blocks
 subst hcs
 exact ⟨hV.one,rfl,rfl,n,B,k,rfl,hV.blocks⟩
theorem each_in (F:Fence) (n:Nat) (hF2:F.fn 29) (hro:F.round=none) (w:World) (u0 u1 u2 u3:Value):CallsIn F n Try.prog 29 #[.agg #[u0,u1,u2,u3]] w fun e w'=>e= .returned (.func (.func 36) #[] #[.pointer (some ⟨w.heap.size,0,none⟩)])∧w'=w.alloc (.cells #[u0,u1,u2,u3] 46):=by
 refine callsIn_of_wp Try.func29 rfl hF2 ?_ hro
 simp only [Try.ntmps29,List.size_toArray,List.length_cons,List.length_nil,Nat.reduceAdd,Nat.reduceSub,Array.replicate_succ,Array.replicate_zero,List.push_toArray,List.append_toArray,List.nil_append,List.cons_append]
 gi_wp2
 go_ret
 exact ⟨rfl,rfl⟩
theorem size_in (F:Fence) (hd:F.depth=none) (hF0:F.fn 15) (hF:F.fn 37) (hF1:F.fn 36) (hF2:F.fn 29) (hro:F.round=none) (n:Nat) (h1:1≤n) (w:World) (ρ:Ghost) (m:Nat) (f:Fu) (cf:List Value) (hf:FuR w ρ m f cf) :
 CallsIn F n Try.prog 15 #[.agg cf.toArray] w fun e w'=>e= .returned (.int .i64 (lisW f.params.length (wkB f.body)))∧Below w.heap.size w w':=by
 obtain ⟨e1,e2,vp,va0,r1,r2,vb,vs,hcf,hV⟩:=hf.shape
 have hbR:=hV.body
 have hPA:=hV.params
 obtain ⟨P1,p1,rfl,hpl1,hpl2⟩:=SlR.form hPA
 obtain ⟨m',vb',vs',hm,hbd,i1,i2,hy5,hy6⟩:=hbR.shape
 simp only [List.cons.injEq,and_true,true_and] at hbd
 obtain ⟨rfl,rfl⟩:=hbd
 obtain ⟨B1,b1,rfl,_,_⟩:=SlR.form hy5
 obtain ⟨B2,b2,rfl,_,_⟩:=SlR.form hy6
 have hdd:∀ k:Nat,(F.depth.isSome=true→1≤k):=fun k h=>by rw [hd] at h;cases h
 have q7:cf[7]? =some (.slice P1 f.params.length p1):=by rw [hcf];rfl
 have q15:cf[15]? =some (.int .i64 f.body.code):=by rw [hcf];rfl
 have q16:cf[16]? =some (.slice B1 f.body.bind.length b1):=by rw [hcf];rfl
 have q17:cf[17]? =some (.slice B2 f.body.steps.length b2):=by rw [hcf];rfl
 have q18:cf[18]? =some (.int .i64 f.body.value):=by rw [hcf];rfl
 have HBR:=Hd.mk hbR
 clear hbR hPA hy5 hy6 i1 i2 hm hV hf hcf
 have x0:Blk (w.alloc (.cells cf.toArray 48)) w.heap.size 48 cf:=Blk.new' w cf.toArray 48
 have f7:=x0.cell q7
 have f15:=x0.cell q15
 have f16:=x0.cell q16
 have f17:=x0.cell q17
 have f18:=x0.cell q18
 refine callsIn_of_wp_marks Try.func15 rfl hF0 ?_ hro
 simp only [Try.ntmps15,List.size_toArray,List.length_cons,List.length_nil,Nat.reduceAdd,Nat.reduceSub,Array.replicate_succ,Array.replicate_zero,List.push_toArray,List.append_toArray,List.nil_append,List.cons_append]
 gi_wp2_with (gi_at_call 29;refine (each_in F (n-1) hF2 hro _ _ _ _ _).mono ?_;rintro e w' ⟨rfl,rfl⟩)
 have bN:=(Blk.new (w.alloc (.cells cf.toArray 48)) [.int .i64 f.params.length] 3).alloc (.cells #[.int .i64 f.body.code, .slice B1 f.body.bind.length b1, .slice B2 f.body.steps.length b2, .int .i64 f.body.value] 46)
 have bB:=Blk.new' ((w.alloc (.cells cf.toArray 48)).alloc (.cells #[.int .i64 f.params.length] 3)) #[.int .i64 f.body.code, .slice B1 f.body.bind.length b1, .slice B2 f.body.steps.length b2, .int .i64 f.body.value] 46
 simp only [World.size_alloc] at bN bB
 have hB0:Below w.heap.size w (((w.alloc (.cells cf.toArray 48)).alloc (.cells #[.int .i64 f.params.length] 3)).alloc (.cells #[.int .i64 f.body.code, .slice B1 f.body.bind.length b1, .slice B2 f.body.steps.length b2, .int .i64 f.body.value] 46)):=(((Below.refl _ w).alloc (Nat.le_refl _) _).alloc (by simp) _).alloc (by simp;omega) _
 have hsz:(((w.alloc (.cells cf.toArray 48)).alloc (.cells #[.int .i64 f.params.length] 3)).alloc (.cells #[.int .i64 f.body.code, .slice B1 f.body.bind.length b1, .slice B2 f.body.steps.length b2, .int .i64 f.body.value] 46)).heap.size=w.heap.size+3:=by simp
 clear x0 f7 f15 f16 f17 f18 q7 q15 q16 q17 q18
 obtain ⟨W0,hW0⟩:∃ W0,(((w.alloc (.cells cf.toArray 48)).alloc (.cells #[.int .i64 f.params.length] 3)).alloc (.cells #[.int .i64 f.body.code, .slice B1 f.body.bind.length b1, .slice B2 f.body.steps.length b2, .int .i64 f.body.value] 46))=W0:=⟨_,rfl⟩
 rw [hW0] at bN bB hB0 hsz ⊢
 clear hW0
 have hK0:KeepC (w.heap.size+1) w W0:=KeepC.of_below hB0 (Nat.le_refl _)
 refine wpIn_rangeFunc_ownH hro h1 (gf:=36) (lb:= #[.pointer (some ⟨w.heap.size+1+1,0,none⟩)]) rfl hF1 (enters_of Try.func36 (by kernel_rfl) rfl)
  (each_stops F hd hF hF1 hro (n-1) (w.heap.size+1) (w.heap.size+1+1) (ρ:=ρ) (w0:=w) (by omega) f.body W0 m _ _ _ _ HBR.out hK0 (by omega) bB) KeepC.trans (fun W l o o' _ h hc _=>KeepC.putObj W l o o' h hc) (Below.refl _ _) (fun _=>rfl)
  (fun pre W=>Blk W (w.heap.size+1) 3 [.int .i64 (lisW f.params.length (pre.map WkT.st))]∧Below w.heap.size w W)
  (fun _ _ _=>False)
  (OwnFrom.and (Own.from (blk_own _ _ _) _) (ownFrom_below (Nat.le_refl _) (by omega)))
  (fun _ _ _ _ _ hs _ _=>hs)
  ⟨bN,hB0⟩
  (fun x a' W=>∃ Bx,w.heap.size+1<Bx∧Blk W Bx 94 x.cs∧a'={ tmps:= #[.agg cf.toArray, .pointer (some ⟨w.heap.size,0,none⟩), .int .i64 0, .pointer (some ⟨w.heap.size+1,0,none⟩), .pointer (some ⟨Bx,0,none⟩),undef,undef,undef,undef, .pointer (some ⟨w.heap.size,7,none⟩), .slice P1 f.params.length p1, .int .i64 f.params.length, .pointer (some ⟨w.heap.size,15,none⟩), .agg #[.int .i64 f.body.code, .slice B1 f.body.bind.length b1, .slice B2 f.body.steps.length b2, .int .i64 f.body.value], .func (.func 36) #[] #[.pointer (some ⟨w.heap.size+1+1,0,none⟩)], .agg x.cs.toArray,undef,undef,undef,undef,undef,undef,undef,undef,undef,undef,undef,undef,undef,undef,undef,undef,undef,undef,undef,undef,undef,undef,undef,undef,undef,undef],defers:=[] })
  (fun x a' _ X Y row hs hg hr=>by obtain ⟨Bx,h1,h2,h3⟩:=hs;exact ⟨Bx,h1,blk_own Bx 94 (fun (_:Unit)=>x.cs) () X Y row h2 hg (fun r e=>(hr r e).2),h3⟩)
  ?assign ?body ?done ?stop
 case assign =>
  rintro l pre x W K ⟨bN1,hB1⟩ hK
  obtain ⟨hone,hlen,_⟩:=x.facts
  have hin:(Try.prog.info? 94).map (·.size)=some 19:=by kernel_rfl
  rw [show x.enc= #[.agg x.cs.toArray] from rfl]
  generalize x.cs=cs at *
  have hin2:(Try.prog.info? 94).map (·.size)=some cs.length:=by rw [hlen];exact hin
  have HSZ:Hd (cs.toArray.size=19):=⟨by rw [List.size_toArray,hlen]⟩
  have HIN:=Hd.mk hin2
  have HON:=Hd.mk hone
  have HK:=Hd.mk hK
  have HBN:=Hd.mk bN1
  have HB1:=Hd.mk hB1
  clear hin2 hone hK hin hlen bN1 hB1
  gi_wp2_with (refine wpListIn_store_newH rfl 94 _ _ rfl _ cs.toArray rfl rfl (by rw [List.size_toArray];exact HIN.out) (by exact (Eq.trans rfl HSZ.out.symm)) HON.out ?_)
  refine ⟨?_⟩
  gi_wp2
  exact HK.out _ _ ((KeepsOthers.alloc _ _).from _) ((KeepC.refl _ W).alloc _) ⟨HBN.out.alloc _,HB1.out.alloc HB1.out.size _⟩ ⟨W.heap.size,HBN.out.lt,Blk.new' _ _ _,rfl⟩
 case body =>
  rintro l pre x a' W hl ⟨r,hr⟩ ⟨bN1,hB1⟩ ⟨Bx,hBx,bX,rfl⟩ hlt
  obtain ⟨_,_,g1,n',S1,s1,g18,hBK⟩:=x.facts
  have c1:=bX.cell g1
  have c18:=bX.cell g18
  have cN:=bN1.cell (i:=0) rfl
  have cF:=bN1.free 0
  have lN:=bN1.lt
  have HBN:=Hd.mk bN1
  have HB1:=Hd.mk hB1
  have HBX:=Hd.mk bX
  have HBK:=Hd.mk hBK
  have lX:=bX.lt
  have hne:Bx≠w.heap.size+1:=by omega
  have c18':(W.setCell ⟨w.heap.size+1,0,none⟩ (.int .i64 (max (lisW f.params.length (pre.map WkT.st)) (wrap64 (x.st.out+1))))).cell? ⟨Bx,18,none⟩=some (.slice S1 x.st.blocks.length s1):=(bX.setCell_ne _ hne).cell g18
  have HR0:Hd (Rnd (w.heap.size+1) W0.heap.size w W (W.setCell ⟨w.heap.size+1,0,none⟩ (.int .i64 (max (lisW f.params.length (pre.map WkT.st)) (wrap64 (x.st.out+1)))))):=⟨Rnd.set ⟨KeepsFrom.refl _ _,KeepC.refl _ _,hB1⟩ (by omega) _⟩
  have HN0:=Hd.mk (bN1.setCell 0 (.int .i64 (max (lisW f.params.length (pre.map WkT.st)) (wrap64 (x.st.out+1)))))
  clear bN1 hB1 bX hBK g1 g18 c18
  gi_wp2_with (refine wpListIn_max rfl _ _ _ _ rfl _ _ rfl rfl ?_)
  generalize hz:max (lisW f.params.length (pre.map WkT.st)) (wrap64 (x.st.out+1))=z at *
  have HZ:=Hd.mk hz
  generalize W.setCell ⟨w.heap.size+1,0,none⟩ (.int .i64 z)=W1 at *
  clear hz c18' cN cF c1
  obtain ⟨_,_,hsf,hlb,hlb',_⟩:=HBK.out.out
  cases hsf
  simp only [maxLen] at hlb'
  have HLB:Hd (x.st.blocks.length≤9223372036854775807):=⟨by omega⟩
  clear hlb hlb'
  gi_loopw [24] (fun v wr=>∃ i:Nat,v= .int .i64 i∧i≤x.st.blocks.length∧Blk wr (w.heap.size+1) 3 [.int .i64 (blkW z (x.st.blocks.take i))]∧Rnd (w.heap.size+1) W0.heap.size w W wr) (fun v _=>x.st.blocks.length-(intOf v).toNat)
  case atStart=>exact ⟨0,rfl,by omega,by simpa [blkW] using HN0.out,HR0.out⟩
  case round =>
   obtain ⟨i,rfl,hi,hbi,hri⟩:=hrel
   by_cases hlt1:i<x.st.blocks.length
   ·have hlti:(i:Int)<x.st.blocks.length:=by omega
    have hiz:(0:Int)≤i:=by omega
    have hyy:=List.getElem?_eq_getElem hlt1
    obtain ⟨A',c',h1',h2',h3',h4',h5'⟩:=HBK.out.out
    cases h1'
    obtain ⟨cb,co,cs1,rfl,e2',e3',e4',e5',e6'⟩:=h5' i _ hyy
    generalize hs:x.st.blocks[i]=c at *
    obtain ⟨m2,va1,va2,_,rfl,_,_,hI3,hI4⟩:=e5'.shape
    obtain ⟨C1,d1,rfl,hlc,hlc'⟩:=SlR.form hI3
    obtain ⟨C2,d2,rfl,_,_⟩:=SlR.form hI4
    simp only [maxLen] at hlc'
    have HLC:Hd (c.bind.length≤9223372036854775807):=⟨by omega⟩
    have HI3:=Hd.mk hI3
    have hB2:=hri.below
    have g0:wr.cell? ⟨cb,co+i*4,none⟩=some (.int .i64 c.code):=(hB2.cell (p:=⟨cb,_,none⟩) e3').trans (e6' 0 _ rfl)
    have g1:wr.cell? ⟨cb,co+i*4+1,none⟩=some (.slice C1 c.bind.length d1):=(hB2.cell (p:=⟨cb,_,none⟩) e3').trans (e6' 1 _ rfl)
    have g2:wr.cell? ⟨cb,co+i*4+2,none⟩=some (.slice C2 c.steps.length d2):=(hB2.cell (p:=⟨cb,_,none⟩) e3').trans (e6' 2 _ rfl)
    have g3:wr.cell? ⟨cb,co+i*4+3,none⟩=some (.int .i64 c.value):=(hB2.cell (p:=⟨cb,_,none⟩) e3').trans (e6' 3 _ rfl)
    have lcb:cb<wr.heap.size:=Nat.lt_of_lt_of_le e3' hB2.size
    have hR2:=hri.alloc (.cells #[.int .i64 c.code, .slice C1 c.bind.length d1, .slice C2 c.steps.length d2, .int .i64 c.value] 46)
    have hN2:=hbi.alloc (.cells #[.int .i64 c.code, .slice C1 c.bind.length d1, .slice C2 c.steps.length d2, .int .i64 c.value] 46)
    have HR2:=Hd.mk hR2
    have HN2:=Hd.mk hN2
    have HYY:=Hd.mk hyy
    clear hB2 hR2 hN2 hyy hI3 hI4 hlc hlc' h2' h3' h4' h5' e2' e4' e5' e6' hs hbi hri
    gi_wp2
    generalize wr.alloc (.cells #[.int .i64 c.code, .slice C1 c.bind.length d1, .slice C2 c.steps.length d2, .int .i64 c.value] 46)=W2 at *
    clear g0 g1 g2 g3 lcb
    gi_loopw [31] (fun v wr2=>∃ j:Nat,v= .int .i64 j∧j≤c.bind.length∧Blk wr2 (w.heap.size+1) 3 [.int .i64 (binW (blkW z (x.st.blocks.take i)) (c.bind.take j))]∧Rnd (w.heap.size+1) W0.heap.size w W wr2) (fun v _=>c.bind.length-(intOf v).toNat)
    case atStart=>exact ⟨0,rfl,by omega,by simpa [binW] using HN2.out,HR2.out⟩
    case round =>
     obtain ⟨j,rfl,hj,hbj,hrj⟩:=hrel
     by_cases hlt2:j<c.bind.length
     ·have hltj:(j:Int)<c.bind.length:=by omega
      have hjz:(0:Int)≤j:=by omega
      have hyj:=List.getElem?_eq_getElem hlt2
      obtain ⟨A',c',h1',h2',h3',h4',h5'⟩:=HI3.out.out
      cases h1'
      obtain ⟨ib,io,cs1,rfl,e2',e3',e4',⟨rfl,_⟩,e6'⟩:=h5' j _ hyj
      generalize hs:c.bind[j]=y at *
      have g0:wr.cell? ⟨ib,io+j,none⟩=some (.int .i64 y):=by
       have:=(hrj.below.cell (p:=⟨ib,_,none⟩) e3').trans (e6' 0 _ rfl)
       rw [Nat.mul_one,Nat.add_zero] at this
       exact this
      have cN:=hbj.cell (i:=0) rfl
      have cF:=hbj.free 0
      have lN2:=hbj.lt
      have hN3:=hbj.setCell 0 (.int .i64 (max (binW (blkW z (x.st.blocks.take i)) (c.bind.take j)) (wrap64 (y+1))))
      have hR3:=hrj.set (by omega) (.int .i64 (max (binW (blkW z (x.st.blocks.take i)) (c.bind.take j)) (wrap64 (y+1))))
      have HN3:=Hd.mk hN3
      have HR3:=Hd.mk hR3
      have HYJ:=Hd.mk hyj
      clear hN3 hR3 hbj hrj hyj h2' h3' h4' h5' e2' e4' e6' hs
      gi_wp2_with (refine wpListIn_max rfl _ _ _ _ rfl _ _ rfl rfl ?_)
      go_roundw
      case rel =>
       have hw:=wrap_succ hlt2 HLC.out
       exact ⟨j+1,by first|rw [hw]|exact congrArg _ hw,hlt2,by rw [binW_snoc _ _ _ _ HYJ.out];exact HN3.out,HR3.out⟩
      case measure=>exact measure_succ hlt2 HLC.out
     ·have hnlt2:¬((j:Int)<c.bind.length):=by omega
      have HJE:Hd (j=c.bind.length):=⟨by omega⟩
      have HBJ:=Hd.mk hbj
      have HRJ:=Hd.mk hrj
      clear hbj hrj hj hlt2
      gi_wp2
      go_roundw
      case rel =>
       have hb:=HBJ.out
       rw [HJE.out,List.take_length] at hb
       have hw:=wrap_succ hlt1 HLB.out
       exact ⟨i+1,by first|rw [hw]|exact congrArg _ hw|rfl,hlt1,by rw [blkW_snoc _ _ _ _ HYY.out];exact hb,HRJ.out⟩
      case measure=>first|exact measure_succ hlt1 HLB.out|exact measure_plus hlt1
   ·have hnlt1:¬((i:Int)<x.st.blocks.length):=by omega
    have HIE:Hd (i=x.st.blocks.length):=⟨by omega⟩
    have HBI:=Hd.mk hbi
    have HRI:=Hd.mk hri
    clear hbi hri hi hlt1
    gi_wp2
    have hb:=HBI.out
    rw [HIE.out,List.take_length] at hb
    refine ⟨by first|exact HRI.out.from'|(rw [←hsz];exact HRI.out.from'),HRI.out.keep,?_,HRI.out.below⟩
    rw [List.map_append,show List.map WkT.st [x]=[x.st] from rfl,lisW_snoc]
    unfold stpW
    rw [HZ.out]
    exact hb
 case done =>
  rintro D zs W hD hzs ⟨bN1,hB1⟩ hK
  rw [hzs] at bN1
  have cN:=bN1.cell (i:=0) rfl
  gi_wp2
  refine ⟨by simp, .inl ⟨_,_,rfl,run_takeDeferred hK,?_⟩⟩
  exact ⟨_,results_tmp rfl _ _ _,rfl,hB1.trans (belowK_b (w:=w) (Nat.le_refl _) W D _ _ (by omega) hK rfl rfl)⟩
 case stop =>
  rintro D c pre W _ _ h _
  exact h.elim
end
section
open Go Go.RowKit
inductive Tp where
 |mk (k n:Int) (args:List Tp)
mutual
def er:Ty→Tp
 |.mk k n _ args _ _=> .mk k n (erL args)
def erL:List Ty→List Tp
 |[]=>[]
 |t :: l=>er t :: erL l
end
theorem er_eq (t:Ty):er t= .mk t.kind t.n (erL t.args):=by cases t;rfl
theorem erL_map:∀ l:List Ty,erL l=l.map er
 |[]=>rfl
 |t :: l=>by rw [erL,erL_map l,List.map_cons]
theorem erL_len (l:List Ty):(erL l).length=l.length:=by rw [erL_map,List.length_map]
theorem erL_get (l:List Ty) (i:Nat):(erL l)[i]? =(l[i]?).map er:=by rw [erL_map,List.getElem?_map]
mutual
theorem same1_er:∀ (a b:Ty),same1 a b=true→er a=er b
 |.mk k n _ args _ _, .mk k' n' _ args' _ _,h=>by
  simp only [same1,Ty.kind,Ty.n,Ty.args,Bool.and_eq_true] at h
  obtain ⟨⟨h1,h2⟩,h3⟩:=h
  rw [er,er,of_decide_eq_true h1,of_decide_eq_true h2,sameL_er args args' h3]
theorem sameL_er:∀ (l m:List Ty),sameL l m=true→erL l=erL m
 |[],[],_=>rfl
 |a :: l,b :: m,h=>by
  simp only [sameL,Bool.and_eq_true] at h
  rw [erL,erL,same1_er a b h.1,sameL_er l m h.2]
 |[],_ :: _,h=>by simp [sameL] at h
 |_ :: _,[],h=>by simp [sameL] at h
end
mutual
def sb (θ:List Tp):Tp→Tp
 |.mk k n args=>if k=3 then (θ[n.toNat]?).getD (.mk k n args) else .mk k n (sbL θ args)
def sbL (θ:List Tp):List Tp→List Tp
 |[]=>[]
 |t :: l=>sb θ t :: sbL θ l
end
theorem sbL_map (θ:List Tp):∀ l:List Tp,sbL θ l=l.map (sb θ)
 |[]=>rfl
 |t :: l=>by rw [sbL,sbL_map θ l,List.map_cons]
theorem sbL_len (θ l:List Tp):(sbL θ l).length=l.length:=by rw [sbL_map,List.length_map]
theorem sbL_get (θ l:List Tp) (i:Nat):(sbL θ l)[i]? =(l[i]?).map (sb θ):=by rw [sbL_map,List.getElem?_map]
theorem sb_no {θ:List Tp} {k n:Int} {args:List Tp} (h:k≠3):sb θ (.mk k n args)= .mk k n (sbL θ args):=by rw [sb,if_neg h]
mutual
def clT (v:Int):Tp→Prop
 |.mk k n args=>(k=3→0≤n∧n<v)∧clL v args
def clL (v:Int):List Tp→Prop
 |[]=>True
 |t :: l=>clT v t∧clL v l
end
theorem clL_mem {v:Int}:∀ {l:List Tp},clL v l→∀ t,t ∈ l→clT v t
 |[],_,_,h=>by cases h
 |a :: l,h,t,ht=>by
  rw [clL] at h
  rcases List.mem_cons.1 ht with rfl|ht
  ·exact h.1
  ·exact clL_mem h.2 t ht
mutual
theorem sb_sb (θ σ:List Tp):∀ t:Tp,clT σ.length t→sb θ (sb σ t)=sb (sbL θ σ) t
 |.mk k n args,h=>by
  rw [clT] at h
  by_cases hk:k=3
  ·obtain ⟨h1,h2⟩:=h.1 hk
   have hlt:n.toNat<σ.length:=by omega
   rw [sb,if_pos hk,sb,if_pos hk,sbL_get,List.getElem?_eq_getElem hlt]
   rfl
  ·rw [sb_no hk,sb_no hk,sb_no hk,sbL_sbL θ σ args h.2]
theorem sbL_sbL (θ σ:List Tp):∀ l:List Tp,clL σ.length l→sbL θ (sbL σ l)=sbL (sbL θ σ) l
 |[],_=>rfl
 |t :: l,h=>by
  rw [clL] at h
  rw [sbL,sbL,sbL,sb_sb θ σ t h.1,sbL_sbL θ σ l h.2]
end
mutual
theorem formed1_cl (ds:List Dat) (v:Int):∀ t:Ty,formed1 ds v t=true→clT v (er t)
 |.mk k n name args region eff,h=>by
  rw [formed1] at h
  rw [er,clT]
  split at h
  ·cases h
  ·rename_i many hm
   simp only [Bool.and_eq_true] at h
   refine ⟨fun hk=>?_,formedL_cl ds v args h.2⟩
   subst hk
   rw [manyOf,if_neg (by decide),if_pos rfl] at hm
   split at hm
   ·cases hm
   ·omega
theorem formedL_cl (ds:List Dat) (v:Int):∀ l:List Ty,formedL ds v l=true→clL v (erL l)
 |[],_=>by rw [erL,clL];trivial
 |t :: l,h=>by
  rw [formedL,Bool.and_eq_true] at h
  rw [erL,clL]
  exact ⟨formed1_cl ds v t h.1,formedL_cl ds v l h.2⟩
end
theorem formed1_dataP {ds:List Dat} {v:Int} {t:Ty} (h:formed1 ds v t=true) (hk:t.kind=4):∃ d,0≤t.n∧ds[t.n.toNat]? =some d∧t.args.length=d.vars.length:=by
 cases t with
 |mk k n name args region eff =>
  have hk:k=4:=hk
  subst hk
  rw [formed1] at h
  split at h
  ·cases h
  ·rename_i many hm
   simp only [Bool.and_eq_true,decide_eq_true_eq] at h
   rw [manyOf,if_neg (by decide),if_neg (by decide),if_pos rfl] at hm
   split at hm
   ·cases hm
   ·rename_i hn
    have hlt:n.toNat<ds.length:=by omega
    refine ⟨ds[n.toNat],by show 0≤n;omega,List.getElem?_eq_getElem hlt,?_⟩
    rw [List.getElem?_eq_getElem hlt] at hm
    cases hm
    exact h.1.1.1.1.2
mutual
theorem sameAt1_sb (ags:List Ty):∀ (a b:Ty),sameAt1 ags a b=true→er b=sb (erL ags) (er a)
 |.mk k n _ bs _ _, .mk k' n' _ bs' _ _,h=>by
  rw [sameAt1] at h
  rw [er,er]
  split at h
  ·rename_i hk
   rw [sb,if_pos hk]
   split at h
   ·rename_i t ht
    have:=same1_er _ _ h
    rw [er] at this
    rw [erL_get,show ags[n.toNat]? =some t from ht, ←this]
    rfl
   ·cases h
  ·rename_i hk
   simp only [Ty.kind,Ty.n,Ty.args,Bool.and_eq_true] at h
   obtain ⟨⟨h1,h2⟩,h3⟩:=h
   rw [sb_no hk, ←of_decide_eq_true h1, ←of_decide_eq_true h2,sameAtL_sb ags bs bs' h3]
theorem sameAtL_sb (ags:List Ty):∀ (l m:List Ty),sameAtL ags l m=true→erL m=sbL (erL ags) (erL l)
 |[],[],_=>rfl
 |a :: l,b :: m,h=>by
  simp only [sameAtL,Bool.and_eq_true] at h
  rw [erL,erL,sbL,sameAt1_sb ags a b h.1,sameAtL_sb ags l m h.2]
 |[],_ :: _,h=>by simp [sameAtL] at h
 |_ :: _,[],h=>by simp [sameAtL] at h
end
mutual
theorem er_at (ags:List Ty):∀ t:Ty,er (at1 ags t)=sb (erL ags) (er t)
 |.mk k n name args region eff=>by
  rw [at1,er]
  split
  ·rename_i hk
   rw [sb,if_pos hk,erL_get]
   split
   ·rename_i t ht
    rw [show ags[n.toNat]? =some t from ht]
    rfl
   ·rename_i ht
    rw [show ags[n.toNat]? =none from ht,er]
    rfl
  ·rename_i hk
   rw [sb_no hk,er,erL_at ags args]
theorem erL_at (ags:List Ty):∀ l:List Ty,erL (atL ags l)=sbL (erL ags) (erL l)
 |[]=>rfl
 |t :: l=>by rw [atL,erL,erL,sbL,er_at ags t,erL_at ags l]
end
end
end Go.Proofs.Ytadffbgbndibpaa
