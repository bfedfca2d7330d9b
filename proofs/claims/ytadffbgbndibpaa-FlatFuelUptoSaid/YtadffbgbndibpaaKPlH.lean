/- PlF, PlG, PlH: lemmas and walks of the claim. -/
import Derived.Test.YtadffbgbndibpaaKPlE
set_option linter.unusedSectionVars false
set_option linter.unusedVariables false
set_option linter.unusedSimpArgs false
set_option maxHeartbeats 16000000
set_option maxRecDepth 100000
namespace Go.Proofs.Ytadffbgbndibpaa
section
open Go Go.RowKit
section
variable {p:Pg} {fuel:Int} {S θ:List Tp} {h:Hp} {s:St} {tys:List Ty} {vs:List Vl} {K:Ctx} {fr:Fr}
theorem safe_13 (hP:PgOk p) (hh:HpT p fuel S h) (ho:s.op=13) (ht:typedC p s tys=true) (hv:VTs p S vs (sbL θ (erL tys))):SimpT p fuel S h (sb θ (er s.ty)) (simpleR K s.op s.int s.code s.blocks vs fr h):=by
 have e:typedC p s tys=asked s tys s.ty [kindT 8 [s.ty],intT]:=by unfold typedC;rw [ho];rfl
 rw [e] at ht
 obtain ⟨_,h2⟩:=asked_ok ht
 rw [h2,erL,erL,erL,er_kind,sbL,sbL,sbL,sb_no (by decide),erL,erL,sbL,sbL] at hv
 obtain ⟨v,l,rfl,hv1,hv2⟩:=hv.cons
 obtain ⟨u,l',rfl,hu1,_⟩:=hv2.cons
 obtain ⟨i,c,c1,c2,c3,c4,c5⟩:=hh.of hv1 (by decide)
 have c6:=c5.elems
 have e2:simpleR K s.op s.int s.code s.blocks (v :: u :: l') fr h=if u.word<0∨u.word ≥ c.parts.length then some (.error ⟨1,u.word⟩,h) else (atI c.parts u.word).map fun v=>(.ok v,h):=by
  have e2:simpleR K s.op s.int s.code s.blocks (v :: u :: l') fr h=(h.of v).bind fun kc=>if u.word<0∨u.word ≥ kc.2.parts.length then some (.error ⟨1,u.word⟩,h) else (atI kc.2.parts u.word).map fun v=>(.ok v,h):=by unfold simpleR;rw [ho];rfl
  rw [e2,c4,Option.bind_some]
 rw [e2]
 split
 ·refine .here hh ⟨?_,fun h=>?_⟩
  ·show (1:Int)<_
   have:=hP.exns
   omega
  ·have h:(1:Int)<0:=h
   omega
 ·have hlt:u.word.toNat<c.parts.length:=by omega
  have hg:=List.getElem?_eq_getElem hlt
  rw [atI_ok (i:=u.word.toNat) (by omega) hg]
  exact .here hh (c6 _ (List.mem_of_getElem? hg))
theorem safe_14 (hP:PgOk p) (hh:HpT p fuel S h) (ho:s.op=14) (ht:typedC p s tys=true) (hv:VTs p S vs (sbL θ (erL tys))):SimpT p fuel S h (sb θ (er s.ty)) (simpleR K s.op s.int s.code s.blocks vs fr h):=by
 have e:typedC p s tys=asked s tys unitT [kindT 8 [firstT tys],intT,firstT tys]:=by unfold typedC;rw [ho];rfl
 rw [e] at ht
 obtain ⟨h1,h2⟩:=asked_ok ht
 rw [h2,erL,erL,erL,erL,er_kind,sbL,sbL,sbL,sbL,sb_no (by decide),erL,erL,sbL,sbL] at hv
 obtain ⟨v,l,rfl,hv1,hv2⟩:=hv.cons
 obtain ⟨u,l',rfl,hu1,hv3⟩:=hv2.cons
 obtain ⟨w,l'',rfl,hw1,_⟩:=hv3.cons
 obtain ⟨i,c,c1,c2,c3,c4,c5⟩:=hh.of hv1 (by decide)
 have c6:=c5.elems
 have e2:simpleR K s.op s.int s.code s.blocks (v :: u :: w :: l'') fr h=if u.word<0∨u.word ≥ c.parts.length then some (.error ⟨1,u.word⟩,h) else (setI c.parts u.word w).map fun q=>(.ok nilV,h.put i { c with parts:=q }):=by
  have e2:simpleR K s.op s.int s.code s.blocks (v :: u :: w :: l'') fr h=(h.of v).bind fun kc=>if u.word<0∨u.word ≥ kc.2.parts.length then some (.error ⟨1,u.word⟩,h) else (setI kc.2.parts u.word w).map fun q=>(.ok nilV,h.put kc.1 { kc.2 with parts:=q }):=by unfold simpleR;rw [ho];rfl
  rw [e2,c4,Option.bind_some]
 rw [e2]
 split
 ·refine .here hh ⟨?_,fun h=>?_⟩
  ·show (1:Int)<_
   have:=hP.exns
   omega
  ·have h:(1:Int)<0:=h
   omega
 ·rw [setI_ok w (by omega) (by omega)]
  refine ⟨_,_,S,rfl,VT.unit h1,⟨List.prefix_refl _,hh.put c3 (.inr (.inr (.inl ⟨rfl,fun t ht v' hv'=>?_⟩))),Int.le_refl _,?_⟩⟩
  ·simp only [List.getElem?_cons_zero,Option.some.injEq] at ht
   subst ht
   rcases List.mem_or_eq_of_mem_set (show v' ∈ c.parts.set u.word.toNat w from hv') with h|h
   ·exact c6 _ h
   ·rw [h]
    exact hw1
  ·show (h.outs.length:Int)-512*h.ticks≤_
   omega
theorem safe_15 (hh:HpT p fuel S h) (ho:s.op=15) (ht:typedC p s tys=true) (hv:VTs p S vs (sbL θ (erL tys))):SimpT p fuel S h (sb θ (er s.ty)) (simpleR K s.op s.int s.code s.blocks vs fr h):=by
 have e:typedC p s tys=asked s tys intT [kindT 8 [firstT tys]]:=by unfold typedC;rw [ho];rfl
 rw [e] at ht
 obtain ⟨h1,h2⟩:=asked_ok ht
 rw [h2,erL,erL,er_kind,sbL,sbL,sb_no (by decide),erL,erL,sbL,sbL] at hv
 obtain ⟨v,l,rfl,hv1,hv2⟩:=hv.cons
 obtain ⟨i,c,c1,c2,c3,c4,c5⟩:=hh.of hv1 (by decide)
 have e2:simpleR K s.op s.int s.code s.blocks (v :: l) fr h=some (.ok (wd c.parts.length),h):=by
  have e2:simpleR K s.op s.int s.code s.blocks (v :: l) fr h=(h.of v).bind fun kc=>some (.ok (wd kc.2.parts.length),h):=by unfold simpleR;rw [ho];rfl
  rw [e2,c4,Option.bind_some]
 rw [e2]
 exact .here hh (VT.int h1)
theorem safe_16 (hh:HpT p fuel S h) (ho:s.op=16) (ht:typedC p s tys=true) (hv:VTs p S vs (sbL θ (erL tys))):SimpT p fuel S h (sb θ (er s.ty)) (simpleR K s.op s.int s.code s.blocks vs fr h):=by
 have e:typedC p s tys=(decide (0≤s.code) && decide (s.code<p.exns.length) && asked s tys s.ty [intT]):=by unfold typedC;rw [ho];rfl
 rw [e,Bool.and_eq_true,Bool.and_eq_true] at ht
 obtain ⟨h1,h2⟩:=asked_ok ht.2
 rw [h2,erL,erL,sbL,sbL] at hv
 obtain ⟨v,l,rfl,hv1,hv2⟩:=hv.cons
 have e2:simpleR K s.op s.int s.code s.blocks (v :: l) fr h=some (.error ⟨s.code,v.word⟩,h):=by unfold simpleR;rw [ho];rfl
 rw [e2]
 have hc:=of_decide_eq_true ht.1.2
 have hc0:=of_decide_eq_true ht.1.1
 exact .here hh ⟨hc,fun h=>by have h:s.code<0:=h;omega⟩
theorem safe_18 (hh:HpT p fuel S h) (ho:s.op=18) (hr:RoomH fuel h 1) (ht:typedC p s tys=true) (hv:VTs p S vs (sbL θ (erL tys))):SimpT p fuel S h (sb θ (er s.ty)) (simpleR K s.op s.int s.code s.blocks vs fr h):=by
 have e:typedC p s tys=asked s tys unitT [intT]:=by unfold typedC;rw [ho];rfl
 rw [e] at ht
 obtain ⟨h1,h2⟩:=asked_ok ht
 rw [h2,erL,erL,sbL,sbL] at hv
 obtain ⟨v,l,rfl,hv1,hv2⟩:=hv.cons
 have e2:simpleR K s.op s.int s.code s.blocks (v :: l) fr h=if h.outs.length<1000000000 then some (.ok nilV,{ h with outs:=h.outs++[v.word] }) else none:=by unfold simpleR;rw [ho];rfl
 have hl:h.outs.length<1000000000:=by
  unfold RoomH at hr
  have:=hh.t1
  omega
 rw [e2,if_pos hl]
 refine ⟨_,_,S,rfl,VT.unit h1,⟨List.prefix_refl _,hh.like rfl hh.t0 hh.t1,Int.le_refl _,?_⟩⟩
 show (((h.outs++[v.word]).length:Nat):Int)-512*h.ticks≤_
 rw [List.length_append,List.length_singleton]
 omega
theorem safe_reckon (hP:PgOk p) (hh:HpT p fuel S h) (h19:19≤s.op) (h25:s.op≤25) (ht:typedC p s tys=true) (hv:VTs p S vs (sbL θ (erL tys))):SimpT p fuel S h (sb θ (er s.ty)) (simpleR K s.op s.int s.code s.blocks vs fr h):=by
 have hty:erL tys=[.mk 0 0 [], .mk 0 0 []]∧((s.op=24∨s.op=25)∧er s.ty=er boolT∨(s.op≠24∧s.op≠25)∧er s.ty=er intT):=by
  unfold typedC at ht
  rw [if_neg (by omega),if_neg (by omega),if_neg (by omega),if_neg (by omega),if_neg (by omega),if_neg (by omega),if_neg (by omega),if_neg (by omega),if_neg (by omega),if_neg (by omega),if_neg (by omega),if_neg (by omega),if_neg (by omega),if_neg (by omega),if_neg (by omega),if_neg (by omega),if_neg (by omega)] at ht
  split at ht
  ·rename_i hb
   obtain ⟨h1,h2⟩:=asked_ok ht
   exact ⟨h2, .inl ⟨hb,h1⟩⟩
  ·rename_i hb
   obtain ⟨h1,h2⟩:=asked_ok ht
   exact ⟨h2, .inr ⟨⟨fun h=>hb (.inl h),fun h=>hb (.inr h)⟩,h1⟩⟩
 obtain ⟨h2,h3⟩:=hty
 rw [h2,sbL,sbL,sbL] at hv
 obtain ⟨v,l,rfl,hv1,hv2⟩:=hv.cons
 obtain ⟨u,l',rfl,hu1,_⟩:=hv2.cons
 have e2:simpleR K s.op s.int s.code s.blocks (v :: u :: l') fr h=some (reckonR s.op v.word u.word,h):=by
  unfold simpleR
  rw [if_neg (by omega),if_neg (by omega),if_neg (by omega),if_neg (by omega),if_neg (by omega),if_neg (by omega),if_neg (by omega),if_neg (by omega),if_neg (by omega),if_neg (by omega),if_neg (by omega),if_neg (by omega),if_pos ⟨h19,h25⟩]
 rw [e2]
 refine .here hh ?_
 have yes:∀ b:Bool,(yesV b).word=0∨(yesV b).word=1:=fun b=>by cases b;exact .inl rfl;exact .inr rfl
 have hex:=hP.exns
 unfold reckonR
 rcases h3 with ⟨ho,he⟩|⟨ho,he⟩
 ·rcases ho with ho|ho
  ·rw [if_neg (by omega),if_neg (by omega),if_neg (by omega),if_pos ho]
   exact VT.bool he (yes _)
  ·rw [if_neg (by omega),if_neg (by omega),if_neg (by omega),if_neg (by omega),if_pos ho]
   exact VT.bool he (yes _)
 ·split
  ·exact VT.int he
  ·split
   ·exact VT.int he
   ·split
    ·exact VT.int he
    ·rw [if_neg ho.1,if_neg ho.2]
     split
     ·refine ⟨?_,fun h=>?_⟩
      ·show (0:Int)<_
       omega
      ·have h:(0:Int)<0:=h
       omega
     ·split
      ·exact VT.int he
      ·exact VT.int he
structure KOk (p:Pg) (fuel:Int) (g:Nat) (K:Ctx):Prop where
 fuelE:K.fuel=fuel
 fn:∀ (S:List Tp) (h:Hp) (i:Nat) (f:Fu) (θ:List Tp) (vs:List Vl),HpT p fuel S h→fuel+1≤h.ticks+g→p.funs[i]? =some f→VTs p S vs (sbL θ (erL f.params))→RoomH fuel h 512 →
  ∃ a h' S',K.fn i vs h=some (a,h')∧AnsT p fuel S' h' (sb θ (er f.result)) a∧Moves p fuel S h S' h' 512
 cl:∀ (S:List Tp) (h:Hp) (ty:Int) (θ:List Tp) (c:CS) (A:Ty) (r:CS × Ty) (b:Bk) (c1:CS) (fr:Fr),HpT p fuel S h→fuel+1≤h.ticks+g→c.wf→blockC p ty c [A] 0 b= .ok r→c.binds b.bind [A]=some c1→FrOk p θ S c1 fr →
  varB (fun x=>0≤x∧x<fr.length) b→szB b≤512→RoomH fuel h 512→∃ a h' S',K.cl b fr h=some (a,h')∧AnsT p fuel S' h' (sb θ (er r.2)) a∧Moves p fuel S h S' h' 512
theorem SimpT.call {t:Tp} {r:Option (Ans × Hp)} {h1:Hp} (e1:h1={ h with ticks:=h.ticks+1 }) (hr:∃ a h' S',r=some (a,h')∧AnsT p fuel S' h' t a∧Moves p fuel S h1 S' h' 512):SimpT p fuel S h t r:=by
 obtain ⟨a,h',S',q1,q2,q3⟩:=hr
 subst e1
 refine ⟨a,h',S',q1,q2,q3.pre,q3.hp,?_,?_⟩
 ·have:h.ticks+1≤h'.ticks:=q3.tick
  omega
 ·have:(h'.outs.length:Int)-512*h'.ticks≤h.outs.length-512*(h.ticks+1)+512:=q3.outs
  omega
theorem callR_spent (hK:K.fuel=fuel) {op code:Int} (hs:h.spend fuel 1=(false,{ h with ticks:=fuel })):callR K op code vs h=some (.error fuelSg,{ h with ticks:=fuel }):=by
 unfold callR
 rw [hK,hs]
section
variable (hP:PgOk p) {g:Nat} (hK:KOk p fuel g K) (hh:HpT p fuel S h) (hg:fuel≤h.ticks+g) (hr:RoomH fuel h 1)
include hP g hK hh hg hr
theorem safe_6 (ho:s.op=6) (ht:typedC p s tys=true) (hv:VTs p S vs (sbL θ (erL tys))):SimpT p fuel S h (sb θ (er s.ty)) (simpleR K s.op s.int s.code s.blocks vs fr h):=by
 have e:typedC p s tys=calledC p s tys:=by unfold typedC;rw [ho];rfl
 rw [e] at ht
 unfold calledC at ht
 rw [Bool.and_eq_true,Bool.and_eq_true] at ht
 obtain ⟨⟨h1,h2⟩,h3⟩:=ht
 have h1:=of_decide_eq_true h1
 have h2:=of_decide_eq_true h2
 have hlt:s.code.toNat<p.funs.length:=by omega
 have hf:=List.getElem?_eq_getElem hlt
 rw [hf] at h3
 generalize p.funs[s.code.toNat]=f at hf h3
 have h3:(decide ((s.types.length:Int)=f.types) && sameAtL s.types f.params tys && sameAtL s.types [f.result] [s.ty])=true:=h3
 rw [Bool.and_eq_true,Bool.and_eq_true] at h3
 obtain ⟨⟨h4,h5⟩,h6⟩:=h3
 have h4:=of_decide_eq_true h4
 obtain ⟨f1,f2,_,_⟩:=hP.funs _ f hf
 have c1:clL ((erL s.types).length:Nat) (erL f.params):=by rw [erL_len,h4];exact formedL_cl _ _ _ f1
 have c2:clT ((erL s.types).length:Nat) (er f.result):=by
  rw [erL_len,h4]
  have:=formedL_cl _ _ _ f2
  rw [erL,clL] at this
  exact this.1
 have h6:=sameAtL_sb _ _ _ h6
 rw [erL,erL,erL,erL,sbL,sbL] at h6
 rw [sameAtL_sb _ _ _ h5,sbL_sbL _ _ _ c1] at hv
 rw [(List.cons.inj h6).1,sb_sb _ _ _ c2]
 have e2:simpleR K s.op s.int s.code s.blocks vs fr h=callR K 6 s.code vs h:=by unfold simpleR;rw [ho];rfl
 rw [e2]
 rcases spend_cases h fuel 1 with ⟨_,hs⟩|⟨hs1,hs⟩
 ·rw [callR_spent hK.fuelE hs]
  exact .spent hP hh
 ·have e3:callR K 6 s.code vs h=K.fn (s.code.toNat:Nat) vs { h with ticks:=h.ticks+1 }:=by
   unfold callR
   rw [hK.fuelE,hs]
   dsimp only
   rw [if_pos rfl,show ((s.code.toNat:Nat):Int)=s.code by omega]
  rw [e3]
  refine SimpT.call (h1:={ h with ticks:=h.ticks+1 }) rfl (hK.fn S _ _ f _ vs (hh.like rfl (by show 0≤h.ticks+1;have:=hh.t0;omega) hs1) ?_ hf hv ?_)
  ·show fuel+1≤h.ticks+1+g
   omega
  ·unfold RoomH at hr ⊢
   show (h.outs.length:Int)-512*(h.ticks+1)+512+512*fuel≤_
   omega
theorem safe_8 (ho:s.op=8) (ht:typedC p s tys=true) (hv:VTs p S vs (sbL θ (erL tys))):SimpT p fuel S h (sb θ (er s.ty)) (simpleR K s.op s.int s.code s.blocks vs fr h):=by
 obtain ⟨a,b,rfl,h1,h2⟩:=typedP_8 ho ht
 have h2:=sameL_er _ _ h2
 rw [erL,erL,erL] at h2
 rw [erL,erL,erL,sbL,sbL,sbL,er_eq a,h1,sb_no (by decide),h2,sbL,sbL,sbL] at hv
 obtain ⟨v,l,rfl,hv1,hv2⟩:=hv.cons
 obtain ⟨u,l',rfl,hu1,_⟩:=hv2.cons
 obtain ⟨i,c,c1,c2,c3,c4,c5⟩:=hh.of hv1 (by decide)
 have e2:simpleR K s.op s.int s.code s.blocks (v :: u :: l') fr h=callR K 8 s.code (v :: u :: l') h:=by unfold simpleR;rw [ho];rfl
 rw [e2]
 rcases spend_cases h fuel 1 with ⟨_,hs⟩|⟨hs1,hs⟩
 ·rw [callR_spent hK.fuelE hs]
  exact .spent hP hh
 ·rcases c5 with ⟨h3,_⟩|⟨h3,_⟩|⟨h3,_⟩|⟨_,bk,ty,θ',cs,A,r,q1,q2,q3,q4,q5,q6,q7⟩
  ·omega
  ·omega
  ·omega
  ·obtain ⟨b1,b2,cc1,cc2,b3,b4,b5,b6⟩:=blockC_ok q3
   have b3':=b3
   obtain ⟨x,hx⟩:∃ x,bk.bind=[x]:=by
    have b2:bk.bind.length=1:=b2
    match bk.bind,b2 with
    |[x],_=>exact ⟨x,rfl⟩
   have hxb:cs.bind x A=some cc1:=by
    rw [hx] at b3
    simp only [CS.binds] at b3
    split at b3
    ·rename_i c'' hc''
     rw [hc'', ←b3]
    ·cases b3
   obtain ⟨e5,e6⟩:=List.cons.inj q4
   have e6:=(List.cons.inj e6).1
   have hxr:=q6
   rw [varB_eq,hx] at hxr
   have hxr:=hxr.1 x List.mem_cons_self
   have e3:callR K 8 s.code (v :: u :: l') h=K.cl bk (c.parts.set x.toNat u) { h with ticks:=h.ticks+1 }:=by
    have hof:Hp.of { h with ticks:=h.ticks+1 } v=some (i,c):=c4
    unfold callR
    rw [hK.fuelE,hs]
    dsimp only
    rw [if_neg (by decide),hof,Option.bind_some]
    dsimp only
    rw [q1]
    dsimp only
    rw [hx]
    dsimp only
    rw [setI_ok u hxr.1 hxr.2,Option.bind_some]
   rw [e3,e6]
   rw [e5] at hu1
   refine SimpT.call (h1:={ h with ticks:=h.ticks+1 }) rfl (hK.cl S _ ty θ' cs A r bk cc1 _ (hh.like rfl (by show 0≤h.ticks+1;have:=hh.t0;omega) hs1) ?_ q2 q3 b3' ?_ ?_ q7 ?_)
   ·show fuel+1≤h.ticks+1+g
    omega
   ·exact q5.set hxb hu1 hxr.2
   ·rw [List.length_set]
    exact q6
   ·unfold RoomH at hr ⊢
    show (h.outs.length:Int)-512*(h.ticks+1)+512+512*fuel≤_
    omega
end
end
end
section
open Go Go.RowKit
theorem formed1_two {ds:List Dat} {v:Int} {t:Ty} (h:formed1 ds v t=true) (hk:t.kind=6):∃ a b,t.args=[a,b]:=by
 cases t with
 |mk k n name args region eff =>
  have hk:k=6:=hk
  subst hk
  rw [formed1] at h
  split at h
  ·cases h
  ·rename_i many hm
   simp only [Bool.and_eq_true,decide_eq_true_eq] at h
   rw [manyOf,if_neg (by decide),if_neg (by decide),if_neg (by decide),if_neg (by decide),if_pos rfl] at hm
   cases hm
   have h2:args.length=2:=h.1.1.1.1.2
   show ∃ a b,args=[a,b]
   match args,h2 with
   |[a,b],_=>exact ⟨a,b,rfl⟩
theorem caseBinds_get {ag:List Ty}:∀ {l:List Con} {bs:List (List Ty)},caseBinds ag l=some bs→∀ (i:Nat) (c:Con),l[i]? =some c→bs.getD i []=atL ag c.fields
 |[],bs,_,i,c,e=>by simp at e
 |d :: l,bs,h,i,c,e=>by
  rw [caseBinds] at h
  split at h
  ·obtain ⟨m,h1,rfl⟩:=Option.map_eq_some_iff.1 h
   cases i with
   |zero =>
    simp only [List.getElem?_cons_zero,Option.some.injEq] at e
    subst e
    rfl
   |succ i =>
    simp only [List.getElem?_cons_succ] at e
    have:=caseBinds_get h1 i c e
    rw [List.getD_cons_succ]
    exact this
  ·cases h
section
variable {p:Pg} {fuel:Int} {K:Ctx} {g:Nat}
theorem simple_safe {S θ:List Tp} {h:Hp} {s:St} {tys:List Ty} {vs:List Vl} {fr:Fr} (hP:PgOk p) (hK:KOk p fuel g K) (hh:HpT p fuel S h) (hg:fuel≤h.ticks+g) (hr:RoomH fuel h 1) (hp:plainStep s=true) {v:Int} (hf:formedL p.datas v [s.ty]=true) (h1:s.op<26) (h2:s.op≠7) (h3:s.op≠17) (ht:typedC p s tys=true) (hv:VTs p S vs (sbL θ (erL tys))):SimpT p fuel S h (sb θ (er s.ty)) (simpleR K s.op s.int s.code s.blocks vs fr h):=by
 have h0:=plain_op hp
 have hc:s.op=0∨s.op=1∨s.op=2∨s.op=3∨s.op=4∨s.op=5∨s.op=6∨s.op=8∨s.op=9∨s.op=10∨s.op=11∨s.op=12∨s.op=13∨s.op=14∨s.op=15∨s.op=16∨s.op=18∨(19≤s.op∧s.op≤25):=by omega
 rcases hc with ho|ho|ho|ho|ho|ho|ho|ho|ho|ho|ho|ho|ho|ho|ho|ho|ho|ho
 ·exact safe_0 hh ho ht
 ·exact safe_1 hh ho hp ht
 ·exact safe_2 hh ho ht
 ·exact safe_3 hP hh ho ht hf hv
 ·exact safe_4 hh ho ht hv
 ·exact safe_5 hh ho ht hv
 ·exact safe_6 hP hK hh hg hr ho ht hv
 ·exact safe_8 hP hK hh hg hr ho ht hv
 ·exact safe_9 hh ho ht hv
 ·exact safe_10 hh ho ht hv
 ·exact safe_11 hh ho ht hv
 ·exact safe_12 hP hK.fuelE hh ho ht hv
 ·exact safe_13 hP hh ho ht hv
 ·exact safe_14 hP hh ho ht hv
 ·exact safe_15 hh ho ht hv
 ·exact safe_16 hh ho ht hv
 ·exact safe_18 hh ho hr ht hv
 ·exact safe_reckon hP hh ho.1 ho.2 ht hv
def StepT (p:Pg) (fuel:Int) (S:List Tp) (h:Hp) (θ:List Tp) (t:Tp) (c:CS) (len:Nat) (k:Int) (r:Option (Ans × Fr × Hp)):Prop :=
 ∃ a fr' h' S',r=some (a,fr',h')∧AnsT p fuel S' h' (sb θ t) a∧Moves p fuel S h S' h' k∧FrOk p θ S' c fr'∧fr'.length=len
def FrIn (fr:Fr) (x:Int):Prop:=0≤x∧x<fr.length
def BlkSafe (p:Pg) (fuel:Int) (g:Nat) (K:Ctx) (b:Bk):Prop:=∀ (S:List Tp) (h:Hp) (ty:Int) (θ:List Tp) (c:CS) (binds:List Ty) (code:Int) (r:CS × Ty) (c1:CS) (fr:Fr),HpT p fuel S h→fuel≤h.ticks+g→c.wf →
 blockC p ty c binds code b= .ok r→c.binds b.bind binds=some c1→FrOk p θ S c1 fr→varB (FrIn fr) b→szB b≤512→RoomH fuel h (szB b)→StepT p fuel S h θ (er r.2) r.1 fr.length (szB b) (blkR K b fr h)
theorem varB_len {fr fr':Fr} (h:fr'.length=fr.length) {b:Bk} (hb:varB (FrIn fr) b):varB (FrIn fr') b:=by
 have:FrIn fr'=FrIn fr:=by funext x;unfold FrIn;rw [h]
 rw [this]
 exact hb
theorem run_block {S θ:List Tp} {h:Hp} {c ci:CS} {b:Bk} {ty:Int} {binds:List Ty} {code:Int} {r:CS × Ty} {t:Ty} {fr1:Fr} {c1:CS} {k:Int} {len:Nat} (hb:BlkSafe p fuel g K b) (hh:HpT p fuel S h) (hg:fuel≤h.ticks+g) (hw:c.wf) (hle:c.le ci) (hse:ci.seen=c.seen) (hc:blockC p ty ci binds code b= .ok r) (hs:sameL [r.2] [t]=true) (h1:ci.binds b.bind binds=some c1) (hf:FrOk p θ S c1 fr1) (hl:fr1.length=len) (hv:varB (FrIn fr1) b) (hk:(szB b:Int)≤k) (hk5:k≤512) (hr:RoomH fuel h k):StepT p fuel S h θ (er t) c len k (blkR K b fr1 h):=by
 obtain ⟨a,fr',h',S',q1,q2,q3,q4,q5⟩:=hb S h ty θ ci binds code r c1 fr1 hh hg (hw.to hle hse) hc h1 hf hv (by omega) (hr.less hk)
 obtain ⟨b1,b2,_⟩:=blk_le p b _ _ _ _ _ hc
 refine ⟨a,fr',h',S',q1,by rw [←er_of_same hs];exact q2,q3.more hk,q4.less (hle.trans b1) (fun x hx=>by rw [b2,hse];exact hx),by rw [q5,hl]⟩
theorem binds_none {c c1:CS} {b:Bk} (h:c.binds b.bind []=some c1) (hl:b.bind.length=([]:List Ty).length):c1=c:=by
 have:b.bind=[]:=List.length_eq_zero_iff.1 hl
 rw [this] at h
 simp only [CS.binds] at h
 cases h
 rfl
theorem binds_one {c c1:CS} {b:Bk} {t:Ty} (h:c.binds b.bind [t]=some c1) (hl:b.bind.length=[t].length):∃ x,b.bind=[x]∧c.bind x t=some c1:=by
 have hl:b.bind.length=1:=hl
 obtain ⟨x,hx⟩:∃ x,b.bind=[x]:=by
  match b.bind,hl with
  |[x],_=>exact ⟨x,rfl⟩
 refine ⟨x,hx,?_⟩
 rw [hx] at h
 simp only [CS.binds] at h
 split at h
 ·rename_i c'' hc''
  rw [hc'', ←h]
 ·cases h
theorem nthR_at {fr:Fr} {h:Hp} {pre:Bk→Fr→Option Fr}:∀ {l:List Bk} {i:Nat} {b:Bk},l[i]? =some b→nthR K l i pre fr h=(pre b fr).bind fun fr=>blkR K b fr h
 |[],i,b,e=>by simp at e
 |a :: l,0,b,e=>by
  simp only [List.getElem?_cons_zero,Option.some.injEq] at e
  subst e
  rw [nthR]
  exact if_pos rfl
 |a :: l,i+1,b,e=>by
  simp only [List.getElem?_cons_succ] at e
  rw [nthR,if_neg (by omega),show ((i+1:Nat):Int)-1=(i:Int) by omega]
  exact nthR_at e
theorem armsR_cases {fr:Fr} {h:Hp} {sg:Sg}:∀ (l:List Bk),armsR K 0 sg l fr h=some (.error sg,fr,h)∨∃ b,b ∈ l∧b.code=sg.code∧armsR K 0 sg l fr h=(bind0 (wd sg.payload) b fr).bind fun fr=>blkR K b fr h
 |[]=> .inl (by rw [armsR])
 |a :: l=>by
  rw [armsR]
  split
  ·rename_i hc
   exact .inr ⟨a,List.mem_cons_self,hc,rfl⟩
  ·rcases armsR_cases l with h1|⟨b,h1,h2,h3⟩
   ·exact .inl h1
   ·exact .inr ⟨b,List.mem_cons_of_mem _ h1,h2,h3⟩
theorem armsR_two {fr:Fr} {h:Hp} {sg:Sg} (b0 b1:Bk) (l:List Bk):armsR K 2 sg (b0 :: b1 :: l) fr h=armsR K 0 sg l fr h:=by
 rw [armsR,armsR]
def stE (K:Ctx) (s:St) (fr:Fr) (h:Hp) (ag:List Vl):Option (Ans × Fr × Hp) :=
 if s.op=26 then (match ag with|a :: _=>nthR K s.blocks (1-a.word) (fun _ fr=>some fr) fr h|[]=>none)
 else if s.op=27 then (match ag with
  |a :: _=>(match a.cell with
   |none=>nthR K s.blocks a.word (fun _ fr=>some fr) fr h
   |some k=>(match h.cells[k]? with|some c=>nthR K s.blocks c.code (fun b fr=>bindAll fr b.bind c.parts) fr h|none=>none))
  |[]=>none)
 else if s.op=17 then (nthR K s.blocks 0 (fun _ fr=>some fr) fr h).bind fun r=>match r.1 with
  |.ok v=>nthR K s.blocks 1 (bind0 v) r.2.1 r.2.2
  |.error g=>if g.code<0 then some (.error g,r.2) else armsR K 2 g s.blocks r.2.1 r.2.2
 else (simpleR K s.op s.int s.code s.blocks ag fr h).map fun r=>(r.1,fr,r.2)
theorem stE_eq (s:St) (fr:Fr) (h:Hp):stR K s fr h=(collect fr s.args).bind (stE K s fr h):=by
 obtain ⟨op,out,t,args,int,code,types,effs,regs,modes,region,keep,blocks⟩:=s
 rw [stR]
 congr 1
def StepSafe (p:Pg) (fuel:Int) (g:Nat) (K:Ctx) (s:St):Prop:=∀ (S:List Tp) (h:Hp) (ty:Int) (θ:List Tp) (c c':CS) (fr:Fr),HpT p fuel S h→fuel≤h.ticks+g→c.wf →
 stepC p ty c s= .ok c'→FrOk p θ S c fr→varS (FrIn fr) s→szS s≤512→RoomH fuel h (szS s)→StepT p fuel S h θ (er s.ty) c fr.length (szS s) (stR K s fr h)
theorem szS_pos (s:St):1≤szS s:=by rw [szS_eq];omega
theorem szS_blocks (s:St):szBs s.blocks<szS s:=by rw [szS_eq];omega
section
variable {S θ:List Tp} {h:Hp} {s:St} {ty:Int} {c c':CS} {fr:Fr}
include S θ h s ty c c' fr
theorem safe_fn (hh:HpT p fuel S h) (hw:c.wf) (hf:formedL p.datas ty [s.ty]=true) (hF:FrOk p θ S c fr) (hv:varS (FrIn fr) s) (h5:szS s≤512) (h1:s.op=7) (hl:s.blocks.length=1) (hk:s.ty.kind=6) (hvv:valuesC p ty c [s.ty.args.take 1] (s.ty.args.getD 1 intT) s.blocks= .ok c') (vs:List Vl):StepT p fuel S h θ (er s.ty) c fr.length (szS s) (stE K s fr h vs):=by
 obtain ⟨b,hb⟩:∃ b,s.blocks=[b]:=by
  match s.blocks,hl with
  |[b],_=>exact ⟨b,rfl⟩
 rw [formedL,Bool.and_eq_true] at hf
 obtain ⟨A,B,hA⟩:=formed1_two hf.1 hk
 rw [hA] at hvv
 obtain ⟨_,_,_,h4⟩:=values_ok (fun b _=>blk_le p b) hvv
 obtain ⟨ci,r,e1,e2,e3,e4⟩:=h4 0 b (by rw [hb];rfl)
 have e3:blockC p ty ci [A] 0 b= .ok r:=e3
 have e4:sameL [r.2] [B]=true:=e4
 rw [varS_eq] at hv
 have hb2:=varBs_mem hv.2 b (by rw [hb];exact List.mem_cons_self)
 have hsz:=szBs_mem (l:=s.blocks) (b:=b) (by rw [hb];exact List.mem_cons_self)
 have hsz2:=szS_blocks s
 have hfr:fr.length≠0:=by
  obtain ⟨x1,x2⟩:=hv.1
  omega
 have e5:stE K s fr h vs=some (.ok (h.new ⟨0,fr,some b⟩).1,fr,(h.new ⟨0,fr,some b⟩).2):=by
  unfold stE
  rw [if_neg (by omega),if_neg (by omega),if_neg (by omega)]
  have e6:simpleR K s.op s.int s.code s.blocks vs fr h=if fr.length=0 then none else some (.ok (h.new ⟨0,fr,some b⟩).1,(h.new ⟨0,fr,some b⟩).2):=by unfold simpleR;rw [h1,hb];rfl
  rw [e6,if_neg hfr]
  rfl
 have et:sb θ (er s.ty)= .mk 6 s.ty.n [sb θ (er A),sb θ (er B)]:=by rw [er_eq,hk,hA,sb_no (by decide),erL,erL,erL,sbL,sbL,sbL]
 rw [e5]
 obtain ⟨q1,q2,q3⟩:=hh.new (c:=⟨0,fr,some b⟩) (k:=6) (n:=s.ty.n) (args:=[sb θ (er A),sb θ (er B)]) (by decide) (by decide) (.inr (.inr (.inr ⟨rfl,b,ty,θ,ci,A,r,rfl,hw.to e1 e2,e3,by rw [er_of_same e4],hF.back hw e1 e2,hb2,by omega⟩)))
 refine ⟨_,_,_,_,rfl,?_,⟨q3,q1,Int.le_refl _,?_⟩,hF.mono q3,rfl⟩
 ·show VT p _ _ _
  rw [et]
  exact q2
 ·show (h.outs.length:Int)-512*h.ticks≤_
  omega
theorem safe_if {tys:List Ty} {vs:List Vl} (hB:∀ b,b ∈ s.blocks→BlkSafe p fuel g K b) (hh:HpT p fuel S h) (hg:fuel≤h.ticks+g) (hw:c.wf) (hF:FrOk p θ S c fr) (hv:varS (FrIn fr) s) (h5:szS s≤512) (hr:RoomH fuel h (szS s)) (h1:s.op=26) (ha:sameL tys [boolT]=true) (hl:s.blocks.length=2) (hvv:valuesC p ty c [[],[]] s.ty s.blocks= .ok c') (hvs:VTs p S vs (sbL θ (erL tys))):StepT p fuel S h θ (er s.ty) c fr.length (szS s) (stE K s fr h vs):=by
 rw [sameL_er _ _ ha,erL,erL,sbL,sbL] at hvs
 obtain ⟨v,l,rfl,hv1,_⟩:=hvs.cons
 rw [er_bool,sb_no (by decide)] at hv1
 have hword:v.word=0∨v.word=1:=by
  rcases hv1 with h|h|h|h|h
  ·omega
  ·exact h.2
  ·omega
  ·omega
  ·omega
 obtain ⟨_,_,_,h4⟩:=values_ok (fun b _=>blk_le p b) hvv
 have hlt:(1-v.word).toNat<s.blocks.length:=by omega
 have hb:=List.getElem?_eq_getElem hlt
 generalize s.blocks[(1-v.word).toNat]=b at hb
 have hmem:=List.mem_of_getElem? hb
 obtain ⟨ci,r,e1,e2,e3,e4⟩:=h4 _ b hb
 have e3:blockC p ty ci [] 0 b= .ok r:=by
  rcases hword with hz|hz
  ·rw [hz] at e3
   exact e3
  ·rw [hz] at e3
   exact e3
 obtain ⟨_,b2,c1,_,b3,_⟩:=blockC_ok e3
 obtain rfl:=binds_none b3 b2
 rw [varS_eq] at hv
 have hsz:=szBs_mem hmem
 have hsz2:=szS_blocks s
 have e5:stE K s fr h (v :: l)=blkR K b fr h:=by
  unfold stE
  rw [if_pos h1]
  have:=nthR_at (K:=K) (pre:=fun _ fr=>some fr) (fr:=fr) (h:=h) hb
  rw [show (((1-v.word).toNat:Nat):Int)=1-v.word by omega] at this
  exact this
 rw [e5]
 exact run_block (hB b hmem) hh hg hw e1 e2 e3 e4 b3 (hF.back hw e1 e2) rfl (varBs_mem hv.2 b hmem) (by omega) (by omega) hr
theorem safe_case {a:Ty} {bs:List (List Ty)} {vs:List Vl} (hP:PgOk p) (hB:∀ b,b ∈ s.blocks→BlkSafe p fuel g K b) (hh:HpT p fuel S h) (hg:fuel≤h.ticks+g) (hw:c.wf) (hF:FrOk p θ S c fr) (hv:varS (FrIn fr) s) (h5:szS s≤512) (hr:RoomH fuel h (szS s)) (h1:s.op=27) (hk:a.kind=4) (hl:s.blocks.length=(consOf p a.n).length) (hbs:caseBinds a.args (consOf p a.n)=some bs) (hvv:valuesC p ty c bs s.ty s.blocks= .ok c') (hvs:VTs p S vs (sbL θ (erL [a]))):StepT p fuel S h θ (er s.ty) c fr.length (szS s) (stE K s fr h vs):=by
 rw [erL,erL,sbL,sbL,er_eq a,hk,sb_no (by decide)] at hvs
 obtain ⟨v,l,rfl,hv1,_⟩:=hvs.cons
 obtain ⟨_,_,_,h4⟩:=values_ok (fun b _=>blk_le p b) hvv
 rw [varS_eq] at hv
 have hsz2:=szS_blocks s
 have hcase:(v.cell=none∧0≤v.word∧∃ con,(consOf p a.n)[v.word.toNat]? =some con∧con.fields=[])∨(∃ i,v.cell=some i∧S[i]? =some (.mk 4 a.n (sbL θ (erL a.args)))):=by
  rcases hv1 with h|h|h|h|h
  ·omega
  ·omega
  ·omega
  ·exact .inl h.2
  ·exact .inr h.2.2
 rcases hcase with ⟨q1,q2,con,q3,q4⟩|⟨i,q1,q2⟩
 ·have hlt:v.word.toNat<s.blocks.length:=by rw [hl];exact (List.getElem?_eq_some_iff.1 q3).1
  have hb:=List.getElem?_eq_getElem hlt
  generalize s.blocks[v.word.toNat]=b at hb
  have hmem:=List.mem_of_getElem? hb
  obtain ⟨ci,r,e1,e2,e3,e4⟩:=h4 _ b hb
  rw [caseBinds_get hbs _ con q3,q4,atL] at e3
  obtain ⟨_,b2,c1,_,b3,_⟩:=blockC_ok e3
  obtain rfl:=binds_none b3 b2
  have hsz:=szBs_mem hmem
  have e5:stE K s fr h (v :: l)=blkR K b fr h:=by
   unfold stE
   rw [if_neg (by omega),if_pos h1]
   dsimp only
   rw [q1]
   dsimp only
   have:=nthR_at (K:=K) (pre:=fun _ fr=>some fr) (fr:=fr) (h:=h) hb
   rw [show ((v.word.toNat:Nat):Int)=v.word by omega] at this
   exact this
  rw [e5]
  exact run_block (hB b hmem) hh hg hw e1 e2 e3 e4 b3 (hF.back hw e1 e2) rfl (varBs_mem hv.2 b hmem) (by omega) (by omega) hr
 ·have hil:i<h.cells.length:=by rw [←hh.len];exact (List.getElem?_eq_some_iff.1 q2).1
  have hcl:=List.getElem?_eq_getElem hil
  generalize h.cells[i]=cl at hcl
  have hct:=hh.cell i _ _ hcl q2
  rcases hct with ⟨_,t1,d,con,t2,t3,t4,t5⟩|⟨h,_⟩|⟨h,_⟩|⟨h,_⟩
  ·have hlt:cl.code.toNat<s.blocks.length:=by rw [hl];exact (List.getElem?_eq_some_iff.1 t4).1
   have hb:=List.getElem?_eq_getElem hlt
   generalize s.blocks[cl.code.toNat]=b at hb
   have hmem:=List.mem_of_getElem? hb
   obtain ⟨ci,r,e1,e2,e3,e4⟩:=h4 _ b hb
   rw [caseBinds_get hbs _ con t4] at e3
   obtain ⟨_,b2,c1,_,b3,_⟩:=blockC_ok e3
   have hcl2:=hP.cons _ d con t2 (by rw [consOf_some t2] at t4;exact List.mem_of_getElem? t4)
   rw [sbL_len] at t3
   have hvp:VTs p S cl.parts (sbL θ (erL (atL a.args con.fields))):=by
    rw [erL_at,sbL_sbL _ _ _ (by rw [t3];exact hcl2)]
    exact t5
   have hvb:=varBs_mem hv.2 b hmem
   obtain ⟨fr',f1,f2,f3⟩:=bindAll_ok b3 b2 hvp (hF.back hw e1 e2) (fun x hx=>by rw [varB_eq] at hvb;exact (hvb.1 x hx).2)
   have hsz:=szBs_mem hmem
   have e5:stE K s fr h (v :: l)=blkR K b fr' h:=by
    unfold stE
    rw [if_neg (by omega),if_pos h1]
    dsimp only
    rw [q1]
    dsimp only
    rw [hcl]
    dsimp only
    have:=nthR_at (K:=K) (pre:=fun b fr=>bindAll fr b.bind cl.parts) (fr:=fr) (h:=h) hb
    rw [show ((cl.code.toNat:Nat):Int)=cl.code by omega,f1] at this
    exact this
   rw [e5]
   exact run_block (hB b hmem) hh hg hw e1 e2 e3 e4 b3 f2 f3 (varB_len f3 hvb) (by omega) (by omega) hr
  ·omega
  ·omega
  ·omega
end
theorem StepT.after {S S1 θ:List Tp} {h h1:Hp} {t:Tp} {c:CS} {len:Nat} {k k1 k2:Int} {r:Option (Ans × Fr × Hp)} (hm:Moves p fuel S h S1 h1 k1) (hk:k1+k2≤k) (hr:StepT p fuel S1 h1 θ t c len k2 r):StepT p fuel S h θ t c len k r:=by
 obtain ⟨a,fr',h',S',q1,q2,q3,q4,q5⟩:=hr
 exact ⟨a,fr',h',S',q1,q2,(hm.trans q3).more hk,q4,q5⟩
def handE (K:Ctx) (s:St) (fr:Fr) (h:Hp):Ans→Option (Ans × Fr × Hp)
 |.ok v=>nthR K s.blocks 1 (bind0 v) fr h
 |.error g=>if g.code<0 then some (.error g,fr,h) else armsR K 2 g s.blocks fr h
theorem stE_handle {s:St} {fr fr1:Fr} {h h1:Hp} {vs:List Vl} {a:Ans} (ho:s.op=17) (e:nthR K s.blocks 0 (fun _ fr=>some fr) fr h=some (a,fr1,h1)):stE K s fr h vs=handE K s fr1 h1 a:=by
 unfold stE
 rw [if_neg (by omega),if_neg (by omega),if_pos ho,e]
 cases a <;> rfl
theorem safe_handle {S θ:List Tp} {h:Hp} {s:St} {ty:Int} {c c':CS} {fr:Fr} {vs:List Vl} (hB:∀ b,b ∈ s.blocks→BlkSafe p fuel g K b) (hh:HpT p fuel S h) (hg:fuel≤h.ticks+g) (hw:c.wf) (hF:FrOk p θ S c fr) (hv:varS (FrIn fr) s) (h5:szS s≤512) (hr:RoomH fuel h (szS s)) (h1:s.op=17) (b0 b1:Bk) (arms:List Bk) (r r1:CS × Ty) (hb:s.blocks=b0 :: b1 :: arms) (h0:blockC p ty c [] 0 b0= .ok r) (h2:blockC p ty r.1 [r.2] 0 b1= .ok r1) (ht:sameL [r1.2] [s.ty]=true) (hvv:armsC p ty r1.1 s.ty [] arms= .ok c'):StepT p fuel S h θ (er s.ty) c fr.length (szS s) (stE K s fr h vs):=by
 have hsz2:=szS_blocks s
 have hszs:szBs s.blocks=szB b0+(szB b1+szBs arms):=by rw [hb,szBs,szBs]
 rw [varS_eq,hb,varBs,varBs] at hv
 obtain ⟨_,hv0,hv1,hva⟩:=hv
 rw [hb] at hB
 obtain ⟨l1,l2,_⟩:=blk_le p b0 _ _ _ _ _ h0
 obtain ⟨m1,m2,_⟩:=blk_le p b1 _ _ _ _ _ h2
 have hw1:=hw.to l1 l2
 obtain ⟨_,b2,c1,_,b3,_⟩:=blockC_ok h0
 have hc1:=binds_none b3 b2
 subst hc1
 obtain ⟨a,fr1,h1',S1,q1,q2,q3,q4,q5⟩:=hB b0 List.mem_cons_self S h ty θ c1 [] 0 r c1 fr hh hg hw h0 b3 hF hv0 (by omega) (hr.less (by omega))
 have e0:nthR K s.blocks 0 (fun _ fr=>some fr) fr h=some (a,fr1,h1'):=by
  have:=nthR_at (K:=K) (pre:=fun _ fr=>some fr) (fr:=fr) (h:=h) (l:=s.blocks) (i:=0) (b:=b0) (by rw [hb];rfl)
  exact this.trans q1
 have hr1:RoomH fuel h1' ((szS s:Int)-szB b0):=q3.room (hr.less (by omega))
 have hg1:fuel≤h1'.ticks+g:=by have:=q3.tick;omega
 have e5:=stE_handle (vs:=vs) h1 e0
 rw [e5]
 cases a with
 |ok v =>
  obtain ⟨_,b2',cc,_,b3',_⟩:=blockC_ok h2
  obtain ⟨x,hx,hxb⟩:=binds_one b3' b2'
  have hx1:=hv1
  rw [varB_eq,hx] at hx1
  have hx1:=hx1.1 x List.mem_cons_self
  have hxl:x<fr1.length:=by rw [q5];exact hx1.2
  have e6:nthR K s.blocks 1 (bind0 v) fr1 h1'=blkR K b1 (fr1.set x.toNat v) h1':=by
   have:=nthR_at (K:=K) (pre:=bind0 v) (fr:=fr1) (h:=h1') (l:=s.blocks) (i:=1) (b:=b1) (by rw [hb];rfl)
   have e7:bind0 v b1 fr1=some (fr1.set x.toNat v):=by
    unfold bind0
    rw [hx]
    exact setI_ok v hx1.1 hxl
   rw [e7] at this
   exact this
  show StepT p fuel S h θ (er s.ty) c1 fr.length (szS s) (nthR K s.blocks 1 (bind0 v) fr1 h1')
  rw [e6]
  refine StepT.after q3 (k2:=(szS s:Int)-szB b0) (by omega) ?_
  exact run_block (hB b1 (List.mem_cons_of_mem _ List.mem_cons_self)) q3.hp hg1 hw l1 l2 h2 ht b3' (q4.set hxb q2 hxl) (by rw [List.length_set,q5]) (varB_len (by rw [List.length_set,q5]) hv1) (by omega) (by omega) hr1
 |error sg =>
  show StepT p fuel S h θ (er s.ty) c1 fr.length (szS s) (if sg.code<0 then some (.error sg,fr1,h1') else armsR K 2 sg s.blocks fr1 h1')
  have hback:FrOk p θ S1 c1 fr1:=q4.less l1 (fun x hx=>by rw [l2];exact hx)
  have here:StepT p fuel S h θ (er s.ty) c1 fr.length (szS s) (some (.error sg,fr1,h1')):=⟨_,_,_,S1,rfl,q2,q3.more (by omega),hback,q5⟩
  split
  ·exact here
  ·rw [hb,armsR_two]
   rcases armsR_cases (K:=K) (fr:=fr1) (h:=h1') (sg:=sg) arms with e6|⟨b,hbm,hbc,e6⟩
   ·rw [e6]
    exact here
   ·rw [e6]
    obtain ⟨_,_,_,f4⟩:=arms_ok (fun b _=>blk_le p b) hvv
    obtain ⟨ci,r',g1,g2,g3,g4⟩:=f4 b hbm
    obtain ⟨_,b2',cc,_,b3',_⟩:=blockC_ok g3
    obtain ⟨x,hx,hxb⟩:=binds_one b3' b2'
    have hvb:=varBs_mem hva b hbm
    have hx1:=hvb
    rw [varB_eq,hx] at hx1
    have hx1:=hx1.1 x List.mem_cons_self
    have hxl:x<fr1.length:=by rw [q5];exact hx1.2
    have e7:bind0 (wd sg.payload) b fr1=some (fr1.set x.toNat (wd sg.payload)):=by
     unfold bind0
     rw [hx]
     exact setI_ok _ hx1.1 hxl
    rw [e7,Option.bind_some]
    have hszb:=szBs_mem hbm
    have hle2:c1.le ci:=(l1.trans m1).trans g1
    have hse2:ci.seen=c1.seen:=by rw [g2,m2,l2]
    have hfi:FrOk p θ S1 ci fr1:=hback.back hw hle2 hse2
    refine StepT.after q3 (k2:=(szS s:Int)-szB b0) (by omega) ?_
    exact run_block (hB b (List.mem_cons_of_mem _ (List.mem_cons_of_mem _ hbm))) q3.hp hg1 hw hle2 hse2 g3 g4 b3' (hfi.set hxb (VT.int rfl) hxl) (by rw [List.length_set,q5]) (varB_len (by rw [List.length_set,q5]) hvb) (by omega) (by omega) hr1
end
end
section
open Go Go.RowKit
section
variable {p:Pg} {fuel:Int} {K:Ctx} {g:Nat}
def contE (K:Ctx) (s:St) (l:List St) (fr:Fr) (h:Hp):Ans→Option (Option Sg × Fr × Hp)
 |.error g=>some (some g,fr,h)
 |.ok v=>(setI fr s.out v).bind fun fr=>stsR K l fr h
theorem stsR_step {s:St} {l:List St} {fr fr1:Fr} {h h1:Hp} {a:Ans} (e:stR K s fr h=some (a,fr1,h1)):stsR K (s :: l) fr h=contE K s l fr1 h1 a:=by
 rw [stsR,e]
 cases a <;> rfl
theorem step_safe (hP:PgOk p) (hK:KOk p fuel g K) (s:St) (hB:∀ b,b ∈ s.blocks→BlkSafe p fuel g K b):StepSafe p fuel g K s:=by
 intro S h ty θ c c' fr hh hg hw hc hF hv h5 hr
 obtain ⟨hp,hf,_,tys,cm,h1,h2,h3⟩:=stepC_ok hc
 obtain ⟨vs,h4,hvs⟩:=collect_ok hF h1
 have hsz:=szS_pos s
 rw [stE_eq,h4,Option.bind_some]
 cases h3 with
 |simple k1 k2 k3 ht _ =>
  obtain ⟨a,h',S',q1,q2,q3⟩:=simple_safe (fr:=fr) hP hK hh hg (hr.less (by omega)) hp hf k1 k2 k3 ht hvs
  refine ⟨a,fr,h',S',?_,q2,q3.more (by omega),hF.mono q3.pre,rfl⟩
  unfold stE
  rw [if_neg (by omega),if_neg (by omega),if_neg k3,q1]
  rfl
 |fn k1 ha hl hk hvv=>exact safe_fn hh hw hf hF hv h5 k1 hl hk hvv vs
 |iff k1 ha hl hvv=>exact safe_if hB hh hg hw hF hv h5 hr k1 ha hl hvv hvs
 |case k1 a bs ha hk hl hfit hb hvv =>
  subst ha
  exact safe_case hP hB hh hg hw hF hv h5 hr k1 hk hl hb hvv hvs
 |handle k1 ha b0 b1 arms r r1 hb q0 q1 ht hvv=>exact safe_handle hB hh hg hw hF hv h5 hr k1 b0 b1 arms r r1 hb q0 q1 ht hvv
theorem steps_safe (hP:PgOk p) (hK:KOk p fuel g K):∀ (l:List St),(∀ s,s ∈ l→StepSafe p fuel g K s)→∀ (S:List Tp) (h:Hp) (ty:Int) (θ:List Tp) (c c2:CS) (fr:Fr),HpT p fuel S h→fuel≤h.ticks+g→c.wf →
 stepsC p ty c l= .ok c2→FrOk p θ S c fr→varSs (FrIn fr) l→szSs l≤512→RoomH fuel h (szSs l) →
 ∃ o fr' h' S',stsR K l fr h=some (o,fr',h')∧(o=none→FrOk p θ S' c2 fr')∧(∀ sg,o=some sg→sg.code<p.exns.length∧(sg.code<0→h'.ticks=fuel))∧FrOk p θ S' c fr'∧Moves p fuel S h S' h' (szSs l)∧fr'.length=fr.length
 |[],_,S,h,ty,θ,c,c2,fr,hh,_,_,hc,hF,_,_,_=>by
  rw [stepsC] at hc
  cases hc
  exact ⟨none,fr,h,S,by rw [stsR],fun _=>hF,fun _ h=>(by cases h),hF,Moves.refl hh (by omega),rfl⟩
 |s :: l,hS,S,h,ty,θ,c,c2,fr,hh,hg,hw,hc,hF,hv,h5,hr=>by
  obtain ⟨c1,h1,h2⟩:=stepsC_cons hc
  rw [varSs] at hv
  rw [szSs] at h5 hr
  have hsz:szSs (s :: l)=szS s+szSs l:=by rw [szSs]
  obtain ⟨a,fr1,h',S1,q1,q2,q3,q4,q5⟩:=hS s List.mem_cons_self S h ty θ c c1 fr hh hg hw h1 hF hv.1 (by omega) (hr.less (by omega))
  have e0:=stsR_step (l:=l) q1
  rw [e0]
  cases a with
  |error sg=>exact ⟨some sg,fr1,h',S1,rfl,fun h=>(by cases h),fun sg' h=>(by cases h;exact q2),q4,q3.more (by omega),q5⟩
  |ok v =>
   obtain ⟨hp,_,_,tys,cm,k1,k2,k3⟩:=stepC_ok h1
   obtain ⟨m1,m2,_⟩:=stepK_le (fun b _=>blk_le p b) hp k3
   obtain ⟨n1,n2,_,n4⟩:=stepC_le (fun b _=>blk_le p b) h1
   have hvs:=hv.1
   rw [varS_eq] at hvs
   have hx:=hvs.1
   have hxl:s.out<fr1.length:=by rw [q5];exact hx.2
   have hf1:FrOk p θ S1 c1 (fr1.set s.out.toNat v):=(q4.back hw m1 m2).set k2 q2 hxl
   have hlen:(fr1.set s.out.toNat v).length=fr.length:=by rw [List.length_set,q5]
   have hfi:FrIn (fr1.set s.out.toNat v)=FrIn fr:=by funext x;unfold FrIn;rw [hlen]
   obtain ⟨o,fr2,h2',S2,r1,r2,r3,r4,r5,r6⟩:=steps_safe hP hK l (fun s hs=>hS s (List.mem_cons_of_mem _ hs)) S1 h' ty θ c1 c2 _ q3.hp (by have:=q3.tick;omega) (n4 hw) h2 hf1 (by rw [hfi];exact hv.2) (by omega) (q3.room (hr.less (by omega)))
   refine ⟨o,fr2,h2',S2,?_,r2,r3,r4.less n1 (fun x hx=>by rw [n2];exact List.mem_append_left _ hx),?_,by rw [r6,hlen]⟩
   ·show (setI fr1 s.out v).bind _=_
    rw [setI_ok v hx.1 hxl]
    exact r1
   ·have:=q3.trans r5
    rw [hsz]
    exact this.more (by omega)
theorem blkR_eq (b:Bk) (fr:Fr) (h:Hp):blkR K b fr h=(stsR K b.steps fr h).bind fun r=>match r.1 with
 |some g=>some (.error g,r.2)
 |none=>(atI r.2.1 b.value).map fun x=>(.ok x,r.2):=by
 cases b
 rw [blkR]
 rfl
theorem blk_safe_n (hP:PgOk p) (hK:KOk p fuel g K):∀ (n:Nat) (b:Bk),szB b≤n→BlkSafe p fuel g K b
 |0,b,h=>by rw [szB_eq] at h;omega
 |n+1,b,hn=>by
  intro S h ty θ c binds code r c1 fr hh hg hw hc hb hF hv h5 hr
  obtain ⟨_,b2,c1',c2,b3,b4,b5,b6⟩:=blockC_ok hc
  rw [hb] at b3
  cases b3
  obtain ⟨a1,⟨e,a2⟩,a3,a4⟩:=CS.binds_ok hb b2
  obtain ⟨d1,d2,_⟩:=blk_le p b _ _ _ _ _ hc
  rw [szB_eq] at h5 hr hn
  rw [varB_eq] at hv
  obtain ⟨o,fr',h',S',q1,q2,q3,q4,q5,q6⟩:=steps_safe hP hK b.steps (fun s hs=>step_safe hP hK s (fun b' hb'=>blk_safe_n hP hK n b' (by have:=szB_inner hs hb';rw [szB_eq b] at this;omega))) S h ty θ c1 c2 fr hh hg (a4 hw) b4 hF hv.2 (by omega) (hr.less (by omega))
  have hm:Moves p fuel S h S' h' (szB b):=q5.more (by rw [szB_eq];omega)
  have hfc:FrOk p θ S' c fr':=q4.less a1 (fun x hx=>by rw [a2];exact List.mem_append_left _ hx)
  have e0:=blkR_eq (K:=K) b fr h
  rw [q1,Option.bind_some] at e0
  cases o with
  |some sg=>exact ⟨.error sg,fr',h',S',e0,q3 sg rfl,hm,hfc.back hw d1 d2,q6⟩
  |none =>
   obtain ⟨v,v1,v2⟩:=q2 rfl b.value r.2 b5
   refine ⟨.ok v,fr',h',S',?_,v2,hm,hfc.back hw d1 d2,q6⟩
   rw [e0]
   show (atI fr' b.value).map _=_
   rw [v1]
   rfl
theorem blk_safe (hP:PgOk p) (hK:KOk p fuel g K) (b:Bk):BlkSafe p fuel g K b:=blk_safe_n hP hK (szB b) b (Nat.le_refl _)
end
theorem params_ok:∀ {l:List Ty} {k:Nat} {c c':CS},paramsC c k l=some c'→(c.wf→c'.wf)∧(∀ x u,c'.of x=some u→c.of x=some u∨∃ i:Nat,x=k+i∧l[i]? =some u)∧(k≤16384→k+l.length≤16384)
 |[],k,c,c',h=>by
  rw [paramsC] at h
  cases h
  exact ⟨id,fun x u e=> .inl e,fun h=>h⟩
 |t :: l,k,c,c',h=>by
  rw [paramsC] at h
  split at h
  ·rename_i c1 h1
   obtain ⟨a1,a2,a3⟩:=params_ok h
   refine ⟨fun hw=>a1 (CS.bind_wf h1 hw),fun x u e=>?_,fun hk=>?_⟩
   ·rcases a2 x u e with h2|⟨i,h2,h3⟩
    ·rcases CS.bind_of h1 h2 with ⟨e1,e2⟩|⟨_,e2⟩
     ·exact .inr ⟨0,by omega,by rw [e2];rfl⟩
     ·exact .inl e2
    ·exact .inr ⟨i+1,by omega,h3⟩
   ·have:=(CS.bind_some h1).2.2.2
    have:=a3 (by omega)
    rw [List.length_cons]
    omega
  ·cases h
theorem funC_ok {p:Pg} {f:Fu} (h:funC p f= .ok ()):∃ c r,paramsC ⟨[],[]⟩ 0 f.params=some c∧blockC p f.types c [] 0 f.body= .ok r∧sameL [r.2] [f.result]=true:=by
 unfold funC at h
 split at h
 ·cases h
 ·rename_i c hc
  obtain ⟨r,h1,h2⟩:=andThen_ok h
  obtain ⟨h3,_⟩:=rs_if h2
  exact ⟨c,r,hc,h1,h3⟩
theorem frame_ok {p:Pg} {f:Fu} {c:CS} {r:CS × Ty} (h1:paramsC ⟨[],[]⟩ 0 f.params=some c) (h2:blockC p f.types c [] 0 f.body= .ok r):(f.params.length:Int)≤sizeF f∧sizeF f≤16384∧f.body.bind=[]∧varB (fun x=>0≤x∧x<sizeF f) f.body∧varB P16 f.body:=by
 obtain ⟨_,_,a3⟩:=params_ok h1
 have a3:=a3 (by omega)
 obtain ⟨_,_,b3⟩:=blk_le p f.body _ _ _ _ _ h2
 have b3':=b3
 rw [varB_eq] at b3
 obtain ⟨_,b2,_⟩:=blockC_ok h2
 have hb:f.body.bind=[]:=List.length_eq_zero_iff.1 b2
 obtain ⟨c1,c2⟩:=sizB_le f.body f.params.length (sizeF f) (Int.le_refl _)
 refine ⟨c1,le_sizB f.body _ (by omega) b3.2,hb,?_,b3'⟩
 rw [varB_eq]
 exact ⟨fun x hx=>(by rw [hb] at hx;cases hx),varSs_and (P:=P16) (Q:=(· <sizeF f)) (R:=fun x=>0≤x∧x<sizeF f) (fun x h h'=>⟨h.1,h'⟩) _ b3.2 c2⟩
theorem kok {p:Pg} {fuel:Int} (hP:PgOk p):∀ g:Nat,KOk p fuel g (fnR p fuel g)
 |0=>⟨rfl,fun S h i f θ vs hh hg=>by have:=hh.t1;omega,fun S h ty θ c A r b c1 fr hh hg=>by have:=hh.t1;omega⟩
 |g+1=>by
  have ih:=kok hP (fuel:=fuel) g
  refine ⟨rfl,fun S h i f θ vs hh hg hf hv hr=>?_,fun S h ty θ c A r b c1 fr hh hg hw hc hb hF hvv h5 hr=>?_⟩
  ·obtain ⟨f1,f2,f3,f4⟩:=hP.funs i f hf
   obtain ⟨c,r,g1,g2,g3⟩:=funC_ok f3
   obtain ⟨k1,k2,k3,k4,_⟩:=frame_ok g1 g2
   obtain ⟨a1,a2,_⟩:=params_ok g1
   have hwf:c.wf:=a1 (fun x hx=>by cases hx)
   have hlen:=hv.len
   rw [sbL_len,erL_len] at hlen
   obtain ⟨z,hz⟩:∃ z:Nat,sizeF f=z:=⟨(sizeF f).toNat,by omega⟩
   generalize hfr:(vs++List.replicate ((sizeF f).toNat-vs.length) nilV).take (sizeF f).toNat=fr
   have hfl:(fr.length:Int)=sizeF f:=by
    rw [←hfr,List.length_take,List.length_append,List.length_replicate]
    omega
   have hF:FrOk p θ S c fr:=fun x t e=>by
    rcases a2 x t e with h|⟨j,h,hj⟩
    ·have:=CS.of_some h
     exact absurd this.1 (by simp)
    ·have hj2:(sbL θ (erL f.params))[j]? =some (sb θ (er t)):=by rw [sbL_get,erL_get,hj];rfl
     obtain ⟨v,v1,v2⟩:=hv.get hj2
     refine ⟨v,?_,v2⟩
     have hjl:=(List.getElem?_eq_some_iff.1 v1).1
     refine atI_ok (i:=j) (by omega) ?_
     rw [←hfr,List.getElem?_take,if_pos (by omega),List.getElem?_append_left hjl,v1]
   have hvar:varB (FrIn fr) f.body:=by
    have:FrIn fr=fun x=>0≤x∧x<sizeF f:=by funext x;unfold FrIn;rw [hfl]
    rw [this]
    exact k4
   obtain ⟨_,b2,cc,_,b3,_⟩:=blockC_ok g2
   have hcc:=binds_none b3 b2
   subst hcc
   obtain ⟨a,fr',h',S',q1,q2,q3,_,_⟩:=blk_safe hP ih f.body S h f.types θ cc [] 0 r cc fr hh (by omega) hwf g2 b3 hF hvar f4 (hr.less (by omega))
   refine ⟨a,h',S',?_,by rw [←er_of_same g3];exact q2,q3.more (by omega)⟩
   show ((atI p.funs i).bind fun f=>if sizeF f<0∨1000000<sizeF f then none else (blkR (fnR p fuel g) f.body ((vs++List.replicate ((sizeF f).toNat-vs.length) nilV).take (sizeF f).toNat) h).map fun r=>(r.1,r.2.2))=_
   rw [atI_ok rfl hf,Option.bind_some,if_neg (by omega),hfr,q1]
   rfl
  ·obtain ⟨a,fr',h',S',q1,q2,q3,_,_⟩:=blk_safe hP ih b S h ty θ c [A] 0 r c1 fr hh (by omega) hw hc hb hF hvv h5 (hr.less (by omega))
   refine ⟨a,h',S',?_,q2,q3.more (by omega)⟩
   show (blkR (fnR p fuel g) b fr h).map (fun r=>(r.1,r.2.2))=_
   rw [q1]
   rfl
theorem funsC_zero {p:Pg}:∀ {l:List Fu},funsC p l=0→∀ f,f ∈ l→funC p f= .ok ()
 |[],_,f,h=>by cases h
 |a :: l,hz,f,h=>by
  rw [funsC] at hz
  split at hz
  ·rename_i u hu
   rcases List.mem_cons.1 h with rfl|h
   ·exact hu
   ·exact funsC_zero hz f h
  ·cases hz
  ·cases hz
theorem datsOk_cons {all:List Dat}:∀ {l:List Dat} {k:Nat},datsOk all k l=true→∀ d,d ∈ l→∀ con,con ∈ d.cons→clL d.vars.length (erL con.fields)
 |[],_,_,d,h=>by cases h
 |a :: l,k,hz,d,h=>by
  rw [datsOk,Bool.and_eq_true,Bool.and_eq_true] at hz
  rcases List.mem_cons.1 h with rfl|h
  ·intro con hcon
   have:=hz.1.2
   unfold consOk at this
   exact formedL_cl _ _ _ (List.all_eq_true.1 this con hcon)
  ·exact datsOk_cons hz.2 d h
theorem validP_zero {p:Pg} (h:validP p=0):headsOk p=true∧funsC p p.funs=0:=by
 unfold validP at h
 split at h
 ·cases h
 ·split at h
  ·exact ⟨by assumption,h⟩
  ·cases h
theorem headsOk_parts {p:Pg} (h:headsOk p=true):3≤p.exns.length∧datsOk p.datas 0 p.datas=true∧(∀ f,f ∈ p.funs→funOk p f=true)∧∃ (i:Nat) (f:Fu),p.main=i∧p.funs[i]? =some f∧mainOk f=true:=by
 unfold headsOk at h
 simp only [Bool.and_eq_true] at h
 obtain ⟨⟨⟨⟨⟨h1,h2⟩,h3⟩,h4⟩,h5⟩,h6⟩:=h
 have h2:=of_decide_eq_true h2
 have h3:=of_decide_eq_true h3
 unfold exnsOk at h1
 simp only [Bool.and_eq_true] at h1
 have hlt:p.main.toNat<p.funs.length:=by omega
 refine ⟨of_decide_eq_true h1.1.1.1,h4,fun f hf=>List.all_eq_true.1 h5 f hf,p.main.toNat,p.funs[p.main.toNat],by omega,List.getElem?_eq_getElem hlt,?_⟩
 rw [List.getElem?_eq_getElem hlt] at h6
 exact h6
theorem pgOk_of {p:Pg} (h:validP p=0) (hs:∀ f,f ∈ p.funs→szB f.body≤512):PgOk p:=by
 obtain ⟨h1,h2⟩:=validP_zero h
 obtain ⟨e1,e2,e3,_⟩:=headsOk_parts h1
 refine ⟨e1,fun i f hf=>?_,fun i d con hd hc=>datsOk_cons e2 d (List.mem_of_getElem? hd) con hc⟩
 have hm:=List.mem_of_getElem? hf
 have hfo:=e3 f hm
 unfold funOk at hfo
 simp only [Bool.and_eq_true] at hfo
 exact ⟨hfo.1.2,hfo.2,funsC_zero h2 f hm,hs f hm⟩
theorem main_args {p:Pg}:∀ {l:List Ty} {ag:List Int},(∀ t,t ∈ l→t.kind=0)→ag.length=l.length→VTs p [] (ag.map wd) (sbL [] (erL l))
 |[],[],_,_=>by rw [erL,sbL];trivial
 |t :: l,a :: ag,h,hl=>by
  rw [erL,sbL,List.map_cons]
  refine ⟨?_,main_args (fun t ht=>h t (List.mem_cons_of_mem _ ht)) (by simpa using hl)⟩
  rw [er_eq,h t List.mem_cons_self,sb_no (by decide)]
  exact .inl rfl
 |[],_ :: _,_,hl=>by simp at hl
 |_ :: _,[],_,hl=>by simp at hl
theorem run_safe {p:Pg} (h:validP p=0) (hs:∀ f,f ∈ p.funs→szB f.body≤512) (ag:List Int) (fuel:Int) (hf0:0≤fuel) (hf1:fuel≤8192) (i:Nat) (f:Fu) (hi:p.main=i) (hf:p.funs[i]? =some f) (hag:ag.length=f.params.length) :
 ∃ a h',(fnR p fuel (fuel.toNat+2)).fn p.main (ag.map wd) ⟨[],0,[]⟩=some (a,h')∧h'.ticks≤fuel∧(∀ sg,a= .error sg→sg.code<p.exns.length∧(sg.code<0→h'.ticks=fuel)):=by
 have hP:=pgOk_of h hs
 obtain ⟨h1,h2⟩:=validP_zero h
 obtain ⟨_,_,_,j,f',e1,e2,e3⟩:=headsOk_parts h1
 obtain rfl:j=i:=by omega
 rw [hf] at e2
 cases e2
 unfold mainOk at e3
 simp only [Bool.and_eq_true] at e3
 have hk:=e3.2
 have hv:VTs p [] (ag.map wd) (sbL [] (erL f.params)):=main_args (fun t ht=>of_decide_eq_true (List.all_eq_true.1 hk t ht)) hag
 obtain ⟨a,h',S',q1,q2,q3⟩:=(kok (fuel:=fuel) hP (fuel.toNat+2)).fn [] ⟨[],0,[]⟩ j f [] (ag.map wd) ⟨rfl,fun i c t e=>by simp at e,Int.le_refl _,hf0⟩ (by show fuel+1≤0+((fuel.toNat+2:Nat):Int);omega) hf hv (by unfold RoomH;show (0:Int)-512*0+512+512*fuel≤_;omega)
 refine ⟨a,h',by rw [hi];exact q1,q3.hp.t1,fun sg e=>?_⟩
 subst e
 exact q2
end
end Go.Proofs.Ytadffbgbndibpaa
