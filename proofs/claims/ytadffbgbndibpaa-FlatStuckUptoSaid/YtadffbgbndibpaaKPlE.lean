/- PlB, PlC, PlD, PlE: lemmas and walks of the claim. -/
import Derived.Test.YtadffbgbndibpaaKPlA
import Derived.Test.YtadffbgbndibpaaKFlI
set_option linter.unusedSectionVars false
set_option linter.unusedVariables false
set_option linter.unusedSimpArgs false
set_option maxHeartbeats 16000000
set_option maxRecDepth 100000
namespace Go.Proofs.Ytadffbgbndibpaa
section
open Go Go.RowKit
mutual
def varB (P:Int→Prop):Bk→Prop
 |.mk _ bind steps _=>(∀ x,x ∈ bind→P x)∧varSs P steps
def varSs (P:Int→Prop):List St→Prop
 |[]=>True
 |s :: l=>varS P s∧varSs P l
def varS (P:Int→Prop):St→Prop
 |.mk _ out _ _ _ _ _ _ _ _ _ _ blocks=>P out∧varBs P blocks
def varBs (P:Int→Prop):List Bk→Prop
 |[]=>True
 |b :: l=>varB P b∧varBs P l
end
theorem varB_eq (P:Int→Prop) (b:Bk):varB P b=((∀ x,x ∈ b.bind→P x)∧varSs P b.steps):=by cases b;rfl
theorem varS_eq (P:Int→Prop) (s:St):varS P s=(P s.out∧varBs P s.blocks):=by cases s;rfl
theorem varBs_mem {P:Int→Prop}:∀ {l:List Bk},varBs P l→∀ b,b ∈ l→varB P b
 |[],_,_,h=>by cases h
 |a :: l,h,b,hb=>by
  rw [varBs] at h
  rcases List.mem_cons.1 hb with rfl|hb
  ·exact h.1
  ·exact varBs_mem h.2 b hb
theorem varBs_of {P:Int→Prop}:∀ {l:List Bk},(∀ b,b ∈ l→varB P b)→varBs P l
 |[],_=>by rw [varBs];trivial
 |a :: l,h=>by
  rw [varBs]
  exact ⟨h a List.mem_cons_self,varBs_of fun b hb=>h b (List.mem_cons_of_mem _ hb)⟩
theorem szBs_mem:∀ {l:List Bk} {b:Bk},b ∈ l→szB b≤szBs l
 |[],_,h=>by cases h
 |a :: l,b,h=>by
  rw [szBs]
  rcases List.mem_cons.1 h with rfl|h
  ·omega
  ·have:=szBs_mem h
   omega
theorem szSs_mem:∀ {l:List St} {s:St},s ∈ l→szS s≤szSs l
 |[],_,h=>by cases h
 |a :: l,b,h=>by
  rw [szSs]
  rcases List.mem_cons.1 h with rfl|h
  ·omega
  ·have:=szSs_mem h
   omega
theorem szB_inner {b c:Bk} {s:St} (hs:s ∈ b.steps) (hc:c ∈ s.blocks):szB c<szB b:=by
 have h1:=szBs_mem hc
 have h2:=szSs_mem hs
 rw [szS_eq] at h2
 rw [szB_eq b]
 omega
def CS.le (c c':CS):Prop:=∀ x t,lookT c.bound x=some t→lookT c'.bound x=some t
def CS.wf (c:CS):Prop:=∀ x,x ∈ c.seen→(lookT c.bound x).isSome=true
theorem CS.le.refl (c:CS):c.le c:=fun _ _ h=>h
theorem CS.le.trans {a b c:CS} (h:a.le b) (h':b.le c):a.le c:=fun x t e=>h' x t (h x t e)
theorem CS.of_some {c:CS} {x:Int} {t:Ty} (h:c.of x=some t):x ∈ c.seen∧lookT c.bound x=some t:=by
 unfold CS.of at h
 split at h
 ·exact ⟨by assumption,h⟩
 ·cases h
theorem CS.of_mk {c:CS} {x:Int} {t:Ty} (h:x ∈ c.seen) (h':lookT c.bound x=some t):c.of x=some t:=by
 unfold CS.of
 rw [if_pos h,h']
theorem CS.le.of {c c':CS} (h:c.le c') (hs:∀ x,x ∈ c.seen→x ∈ c'.seen) {x:Int} {t:Ty} (e:c.of x=some t):c'.of x=some t :=
 CS.of_mk (hs x (CS.of_some e).1) (h x t (CS.of_some e).2)
theorem CS.le.back {c c':CS} (hw:c.wf) (h:c.le c') (hs:c'.seen=c.seen) {x:Int} {t:Ty} (e:c'.of x=some t):c.of x=some t:=by
 obtain ⟨h1,h2⟩:=CS.of_some e
 rw [hs] at h1
 obtain ⟨u,hu⟩:=Option.isSome_iff_exists.1 (hw x h1)
 have:=h x u hu
 rw [h2] at this
 cases this
 exact CS.of_mk h1 hu
theorem CS.wf.to {c c':CS} (hw:c.wf) (h:c.le c') (hs:c'.seen=c.seen):c'.wf:=fun x hx=>by
 rw [hs] at hx
 obtain ⟨u,hu⟩:=Option.isSome_iff_exists.1 (hw x hx)
 rw [h x u hu]
 rfl
theorem lookT_consP (v:Int) (t:Ty) (b:List (Int × Ty)) (x:Int):lookT ((v,t) :: b) x=if v=x then some t else lookT b x:=by
 unfold lookT
 rw [List.find?_cons]
 by_cases h:v=x
 ·simp [h]
 ·simp [h]
def P16 (x:Int):Prop:=0≤x∧x<16384
section
variable {c c':CS} {v:Int} {t:Ty} (h:c.bind v t=some c')
include c c' v t h
theorem CS.bind_some:c'=⟨(v,t) :: c.bound,c.seen++[v]⟩∧lookT c.bound v=none∧P16 v:=by
 unfold CS.bind at h
 split at h
 ·cases h
 ·rename_i hn
  cases h
  refine ⟨rfl,?_,by unfold P16;omega⟩
  cases hl:lookT c.bound v
  ·rfl
  ·rw [hl] at hn
   exact absurd (Or.inl rfl) hn
theorem CS.bind_le:c.le c':=by
 obtain ⟨rfl,hn,_⟩:=CS.bind_some h
 intro x u hx
 show lookT ((v,t) :: c.bound) x=some u
 rw [lookT_consP,if_neg (fun e=>by rw [←e,hn] at hx;cases hx),hx]
theorem CS.bind_seen:c'.seen=c.seen++[v]:=by
 obtain ⟨rfl,hn,_⟩:=CS.bind_some h
 rfl
theorem CS.bind_wf (hw:c.wf):c'.wf:=by
 have hle:=CS.bind_le h
 obtain ⟨rfl,hn,_⟩:=CS.bind_some h
 intro x hx
 rcases List.mem_append.1 hx with hx|hx
 ·obtain ⟨u,hu⟩:=Option.isSome_iff_exists.1 (hw x hx)
  rw [hle x u hu]
  rfl
 ·obtain rfl:=List.mem_singleton.1 hx
  show (lookT ((x,t) :: c.bound) x).isSome=true
  rw [lookT_consP,if_pos rfl]
  rfl
theorem CS.bind_of {x:Int} {u:Ty} (e:c'.of x=some u):(x=v∧u=t)∨(x≠v∧c.of x=some u):=by
 obtain ⟨rfl,hn,_⟩:=CS.bind_some h
 obtain ⟨h1,h2⟩:=CS.of_some e
 have h2:lookT ((v,t) :: c.bound) x=some u:=h2
 rw [lookT_consP] at h2
 by_cases hv:v=x
 ·rw [if_pos hv] at h2
  cases h2
  exact .inl ⟨hv.symm,rfl⟩
 ·rw [if_neg hv] at h2
  rcases List.mem_append.1 h1 with h1|h1
  ·exact .inr ⟨fun e=>hv e.symm,CS.of_mk h1 h2⟩
  ·exact absurd (List.mem_singleton.1 h1).symm hv
end
theorem CS.binds_ok:∀ {l:List Int} {ts:List Ty} {c c':CS},c.binds l ts=some c'→l.length=ts.length→c.le c'∧(∃ e,c'.seen=c.seen++e)∧(∀ x,x ∈ l→P16 x)∧(c.wf→c'.wf)
 |[],ts,c,c',h,_=>by
  simp only [CS.binds] at h
  cases h
  exact ⟨CS.le.refl _,⟨[],by simp⟩,fun _ h=>(by cases h),id⟩
 |v :: l,[],c,c',h,hl=>by simp at hl
 |v :: l,t :: ts,c,c',h,hl=>by
  simp only [CS.binds] at h
  split at h
  ·rename_i c1 h1
   obtain ⟨a1,⟨e,a2⟩,a3,a4⟩:=CS.binds_ok h (by simpa using hl)
   refine ⟨(CS.bind_le h1).trans a1,⟨[v]++e,by rw [a2,CS.bind_seen h1,List.append_assoc]⟩,fun x hx=>?_,fun hw=>a4 (CS.bind_wf h1 hw)⟩
   rcases List.mem_cons.1 hx with rfl|hx
   ·exact (CS.bind_some h1).2.2
   ·exact a3 x hx
  ·cases h
theorem andThen_ok {α β:Type} {x:Rs α} {f:α→Rs β} {b:β} (h:x.andThen f= .ok b):∃ a,x= .ok a∧f a= .ok b:=by
 cases x with
 |ok a=>exact ⟨a,rfl,h⟩
 |no=>cases h
 |big=>cases h
theorem rs_if {α:Type} {P:Prop} [Decidable P] {x:Rs α} {b:α} (h:(if P then x else .no)= .ok b):P∧x= .ok b:=by
 split at h
 ·exact ⟨by assumption,h⟩
 ·cases h
theorem blockC_ok {p:Pg} {ty:Int} {c:CS} {binds:List Ty} {code:Int} {b:Bk} {r:CS × Ty} (h:blockC p ty c binds code b= .ok r) :
 b.code=code∧b.bind.length=binds.length∧∃ c1 c2,c.binds b.bind binds=some c1∧stepsC p ty c1 b.steps= .ok c2∧c2.of b.value=some r.2∧r.1=c2.cut c.seen.length:=by
 cases b with
 |mk bc bb steps v =>
  rw [blockC] at h
  split at h
  ·cases h
  ·rename_i hn
   split at h
   ·cases h
   ·rename_i c1 h1
    obtain ⟨c2,h2,h3⟩:=andThen_ok h
    split at h3
    ·rename_i t ht
     cases h3
     refine ⟨by show bc=code;omega,by show bb.length=_;omega,c1,c2,h1,h2,ht,rfl⟩
    ·cases h3
theorem stepsC_cons {p:Pg} {ty:Int} {c:CS} {s:St} {l:List St} {r:CS} (h:stepsC p ty c (s :: l)= .ok r):∃ c1,stepC p ty c s= .ok c1∧stepsC p ty c1 l= .ok r:=by
 rw [stepsC] at h
 exact andThen_ok h
inductive StepK (p:Pg) (ty:Int) (c:CS) (s:St) (tys:List Ty) (c':CS):Prop where
 |simple (h1:s.op<26) (h2:s.op≠7) (h3:s.op≠17) (ht:typedC p s tys=true) (hc:c'=c)
 |fn (h1:s.op=7) (ha:tys=[]) (hl:s.blocks.length=1) (hk:s.ty.kind=6) (hv:valuesC p ty c [s.ty.args.take 1] (s.ty.args.getD 1 intT) s.blocks= .ok c')
 |iff (h1:s.op=26) (ha:sameL tys [boolT]=true) (hl:s.blocks.length=2) (hv:valuesC p ty c [[],[]] s.ty s.blocks= .ok c')
 |case (h1:s.op=27) (a:Ty) (bs:List (List Ty)) (ha:tys=[a]) (hk:a.kind=4) (hl:s.blocks.length=(consOf p a.n).length) (hf:bindsFit s.blocks (consOf p a.n)=true) (hb:caseBinds a.args (consOf p a.n)=some bs) (hv:valuesC p ty c bs s.ty s.blocks= .ok c')
 |handle (h1:s.op=17) (ha:tys=[]) (b0 b1:Bk) (arms:List Bk) (r r1:CS × Ty) (hb:s.blocks=b0 :: b1 :: arms) (h0:blockC p ty c [] 0 b0= .ok r) (h2:blockC p ty r.1 [r.2] 0 b1= .ok r1) (ht:sameL [r1.2] [s.ty]=true) (hv:armsC p ty r1.1 s.ty [] arms= .ok c')
def nestD (p:Pg) (ty:Int) (c:CS) (s:St) (ag:List Ty):Rs CS :=
 if s.op=7 then
  (if ag=[]∧s.blocks.length=1∧s.ty.kind=6 then valuesC p ty c [s.ty.args.take 1] (s.ty.args.getD 1 intT) s.blocks else .no)
 else if s.op=26 then (if sameL ag [boolT]∧s.blocks.length=2 then valuesC p ty c [[],[]] s.ty s.blocks else .no)
 else if s.op=27 then
  (match ag with
   |[a]=>if a.kind=4∧s.blocks.length=(consOf p a.n).length then
    (if bindsFit s.blocks (consOf p a.n) then (match caseBinds a.args (consOf p a.n) with|some bs=>valuesC p ty c bs s.ty s.blocks|none=> .big) else .no)
    else .no
   |_=> .no)
 else
  (if ag=[] then (match s.blocks with
   |b0 :: b1 :: arms=>(blockC p ty c [] 0 b0).andThen fun r=>(blockC p ty r.1 [r.2] 0 b1).andThen fun r1=>if sameL [r1.2] [s.ty] then armsC p ty r1.1 s.ty [] arms else .no
   |_=> .no) else .no)
def stepD (p:Pg) (ty:Int) (c:CS) (s:St):Rs CS :=
 if !(plainStep s && formedL p.datas ty [s.ty] && formedL p.datas ty s.types) then .no
 else match c.all s.args with
 |none=> .no
 |some ag=>(if s.op<26∧s.op≠7∧s.op≠17 then (if typedC p s ag then .ok c else .no) else nestD p ty c s ag).andThen fun c1=>match c1.bind s.out s.ty with|some c2=> .ok c2|none=> .no
theorem stepD_eq (p:Pg) (ty:Int) (c:CS) (s:St):stepC p ty c s=stepD p ty c s:=by
 obtain ⟨op,out,t,args,int,code,types,effs,regs,modes,region,keep,blocks⟩:=s
 rcases blocks with _|⟨b0,_|⟨b1,arms⟩⟩
 ·kernel_rfl
 ·kernel_rfl
 ·kernel_rfl
theorem plain_op {s:St} (hp:plainStep s=true):0≤s.op∧s.op≤27:=by
 unfold plainStep at hp
 simp only [Bool.and_eq_true] at hp
 exact ⟨of_decide_eq_true hp.1.1.1.1.1.1.1.1.1.1,of_decide_eq_true hp.1.1.1.1.1.1.1.1.1.2⟩
theorem nestD_ok {p:Pg} {ty:Int} {c:CS} {s:St} {tys:List Ty} {c':CS} (h1:nestD p ty c s tys= .ok c') (ho:¬(s.op<26∧s.op≠7∧s.op≠17)) (hop:0≤s.op∧s.op≤27):StepK p ty c s tys c':=by
 unfold nestD at h1
 split at h1
 ·rename_i h7
  obtain ⟨ht,hc⟩:=rs_if h1
  exact .fn h7 ht.1 ht.2.1 ht.2.2 hc
 ·split at h1
  ·rename_i h26
   obtain ⟨ht,hc⟩:=rs_if h1
   exact .iff h26 ht.1 ht.2 hc
  ·split at h1
   ·rename_i h27
    split at h1
    ·rename_i a
     obtain ⟨ht,hc⟩:=rs_if h1
     obtain ⟨hfit,hc⟩:=rs_if hc
     split at hc
     ·rename_i bs hbs
      exact .case h27 a bs rfl ht.1 ht.2 hfit hbs hc
     ·cases hc
    ·cases h1
   ·obtain ⟨ht,hc⟩:=rs_if h1
    split at hc
    ·rename_i b0 b1 arms hbl
     obtain ⟨r,hr,hc⟩:=andThen_ok hc
     obtain ⟨r1,hr1,hc⟩:=andThen_ok hc
     obtain ⟨hs,hc⟩:=rs_if hc
     exact .handle (by omega) ht b0 b1 arms r r1 hbl hr hr1 hs hc
    ·cases hc
theorem stepC_ok {p:Pg} {ty:Int} {c:CS} {s:St} {c1:CS} (h:stepC p ty c s= .ok c1) :
 plainStep s=true∧formedL p.datas ty [s.ty]=true∧formedL p.datas ty s.types=true∧∃ tys c',c.all s.args=some tys∧c'.bind s.out s.ty=some c1∧StepK p ty c s tys c':=by
 rw [stepD_eq] at h
 unfold stepD at h
 cases hn:(plainStep s && formedL p.datas ty [s.ty] && formedL p.datas ty s.types)
 ·rw [hn] at h
  cases h
 rw [hn] at h
 rw [Bool.and_eq_true,Bool.and_eq_true] at hn
 obtain ⟨⟨hp,hf1⟩,hf2⟩:=hn
 refine ⟨hp,hf1,hf2,?_⟩
 rw [if_neg (by simp)] at h
 cases has:c.all s.args with
 |none =>
  rw [has] at h
  cases h
 |some tys =>
  rw [has] at h
  obtain ⟨c',h1,h2⟩:=andThen_ok h
  refine ⟨tys,c',rfl,?_,?_⟩
  ·split at h2
   ·rename_i c2 hc2
    cases h2
    exact hc2
   ·cases h2
  ·split at h1
   ·rename_i ho
    obtain ⟨ht,hc⟩:=rs_if h1
    cases hc
    exact .simple ho.1 ho.2.1 ho.2.2 ht rfl
   ·rename_i ho
    exact nestD_ok h1 ho (plain_op hp)
end
section
open Go Go.RowKit
def BlkLe (p:Pg) (b:Bk):Prop:=∀ ty c binds code r,blockC p ty c binds code b= .ok r→c.le r.1∧r.1.seen=c.seen∧varB P16 b
theorem values_ok {p:Pg} {ty:Int} {t:Ty}:∀ {l:List Bk} {binds:List (List Ty)} {c c':CS},(∀ b,b ∈ l→BlkLe p b)→valuesC p ty c binds t l= .ok c' →
 c.le c'∧c'.seen=c.seen∧varBs P16 l∧∀ i b,l[i]? =some b→∃ ci r,c.le ci∧ci.seen=c.seen∧blockC p ty ci (binds.getD i []) 0 b= .ok r∧sameL [r.2] [t]=true
 |[],binds,c,c',_,h=>by
  rw [valuesC] at h
  cases h
  exact ⟨CS.le.refl _,rfl,by rw [varBs];trivial,fun i b h=>by simp at h⟩
 |b :: l,binds,c,c',hb,h=>by
  rw [valuesC] at h
  obtain ⟨r,h1,h2⟩:=andThen_ok h
  obtain ⟨hs,h3⟩:=rs_if h2
  obtain ⟨a1,a2,a3⟩:=hb b List.mem_cons_self _ _ _ _ _ h1
  obtain ⟨b1,b2,b3,b4⟩:=values_ok (fun x hx=>hb x (List.mem_cons_of_mem _ hx)) h3
  refine ⟨a1.trans b1,b2.trans a2,by rw [varBs];exact ⟨a3,b3⟩,fun i x hi=>?_⟩
  cases i with
  |zero =>
   simp only [List.getElem?_cons_zero,Option.some.injEq] at hi
   subst hi
   refine ⟨c,r,CS.le.refl _,rfl,?_,hs⟩
   cases binds <;> exact h1
  |succ i =>
   simp only [List.getElem?_cons_succ] at hi
   obtain ⟨ci,r',e1,e2,e3,e4⟩:=b4 i x hi
   refine ⟨ci,r',a1.trans e1,e2.trans a2,?_,e4⟩
   cases binds <;> exact e3
theorem arms_ok {p:Pg} {ty:Int} {t:Ty}:∀ {l before:List Bk} {c c':CS},(∀ b,b ∈ l→BlkLe p b)→armsC p ty c t before l= .ok c' →
 c.le c'∧c'.seen=c.seen∧varBs P16 l∧∀ b,b ∈ l→∃ ci r,c.le ci∧ci.seen=c.seen∧blockC p ty ci [intT] b.code b= .ok r∧sameL [r.2] [t]=true
 |[],before,c,c',_,h=>by
  rw [armsC] at h
  cases h
  exact ⟨CS.le.refl _,rfl,by rw [varBs];trivial,fun b h=>by cases h⟩
 |b :: l,before,c,c',hb,h=>by
  rw [armsC] at h
  obtain ⟨_,h0⟩:=rs_if h
  obtain ⟨r,h1,h2⟩:=andThen_ok h0
  obtain ⟨hs,h3⟩:=rs_if h2
  obtain ⟨a1,a2,a3⟩:=hb b List.mem_cons_self _ _ _ _ _ h1
  obtain ⟨b1,b2,b3,b4⟩:=arms_ok (fun x hx=>hb x (List.mem_cons_of_mem _ hx)) h3
  refine ⟨a1.trans b1,b2.trans a2,by rw [varBs];exact ⟨a3,b3⟩,fun x hx=>?_⟩
  rcases List.mem_cons.1 hx with rfl|hx
  ·exact ⟨c,r,CS.le.refl _,rfl,h1,hs⟩
  ·obtain ⟨ci,r',e1,e2,e3,e4⟩:=b4 x hx
   exact ⟨ci,r',a1.trans e1,e2.trans a2,e3,e4⟩
theorem stepK_le {p:Pg} {ty:Int} {c:CS} {s:St} {tys:List Ty} {c':CS} (hb:∀ b,b ∈ s.blocks→BlkLe p b) (hp:plainStep s=true) (h:StepK p ty c s tys c'):c.le c'∧c'.seen=c.seen∧varBs P16 s.blocks:=by
 cases h with
 |simple h1 h2 h3 ht hc =>
  subst hc
  refine ⟨CS.le.refl _,rfl,?_⟩
  have hbl:s.blocks=[]:=by
   unfold plainStep at hp
   rw [Bool.and_eq_true] at hp
   have:=hp.2
   simp only [Bool.or_eq_true] at this
   rcases this with (((h|h)|h)|h)|h
   ·exact absurd (of_decide_eq_true h) h2
   ·exact absurd (of_decide_eq_true h) h3
   ·have:=of_decide_eq_true h;omega
   ·have:=of_decide_eq_true h;omega
   ·exact List.isEmpty_iff.1 h
  rw [hbl,varBs]
  trivial
 |fn h1 ha hl hk hv=>exact ⟨(values_ok hb hv).1,(values_ok hb hv).2.1,(values_ok hb hv).2.2.1⟩
 |iff h1 ha hl hv=>exact ⟨(values_ok hb hv).1,(values_ok hb hv).2.1,(values_ok hb hv).2.2.1⟩
 |case h1 a bs ha hk hl hf hbs hv=>exact ⟨(values_ok hb hv).1,(values_ok hb hv).2.1,(values_ok hb hv).2.2.1⟩
 |handle h1 ha b0 b1 arms r r1 hbl h0 h2 ht hv =>
  rw [hbl] at hb ⊢
  obtain ⟨a1,a2,a3⟩:=hb b0 List.mem_cons_self _ _ _ _ _ h0
  obtain ⟨b1',b2,b3⟩:=hb b1 (List.mem_cons_of_mem _ List.mem_cons_self) _ _ _ _ _ h2
  obtain ⟨d1,d2,d3,_⟩:=arms_ok (fun x hx=>hb x (List.mem_cons_of_mem _ (List.mem_cons_of_mem _ hx))) hv
  exact ⟨(a1.trans b1').trans d1,(d2.trans b2).trans a2,by rw [varBs,varBs];exact ⟨a3,b3,d3⟩⟩
theorem stepC_le {p:Pg} {ty:Int} {c:CS} {s:St} {c1:CS} (hb:∀ b,b ∈ s.blocks→BlkLe p b) (h:stepC p ty c s= .ok c1):c.le c1∧c1.seen=c.seen++[s.out]∧varS P16 s∧(c.wf→c1.wf):=by
 obtain ⟨hp,_,_,tys,c',_,h1,h2⟩:=stepC_ok h
 obtain ⟨a1,a2,a3⟩:=stepK_le hb hp h2
 refine ⟨a1.trans (CS.bind_le h1),by rw [CS.bind_seen h1,a2],by rw [varS_eq];exact ⟨(CS.bind_some h1).2.2,a3⟩,fun hw=>CS.bind_wf h1 (hw.to a1 a2)⟩
theorem stepsC_le {p:Pg} {ty:Int}:∀ {l:List St} {c c1:CS},(∀ s,s ∈ l→∀ b,b ∈ s.blocks→BlkLe p b)→stepsC p ty c l= .ok c1→c.le c1∧(∃ e,c1.seen=c.seen++e)∧varSs P16 l∧(c.wf→c1.wf)
 |[],c,c1,_,h=>by
  rw [stepsC] at h
  cases h
  exact ⟨CS.le.refl _,⟨[],by simp⟩,by rw [varSs];trivial,id⟩
 |s :: l,c,c1,hb,h=>by
  obtain ⟨c',h1,h2⟩:=stepsC_cons h
  obtain ⟨a1,a2,a3,a4⟩:=stepC_le (hb s List.mem_cons_self) h1
  obtain ⟨b1,⟨e,b2⟩,b3,b4⟩:=stepsC_le (fun x hx=>hb x (List.mem_cons_of_mem _ hx)) h2
  exact ⟨a1.trans b1,⟨[s.out]++e,by rw [b2,a2,List.append_assoc]⟩,by rw [varSs];exact ⟨a3,b3⟩,fun hw=>b4 (a4 hw)⟩
theorem blk_le_n (p:Pg):∀ (n:Nat) (b:Bk),szB b≤n→BlkLe p b
 |0,b,h=>by rw [szB_eq] at h;omega
 |n+1,b,h=>by
  intro ty c binds code r hr
  obtain ⟨h1,h2,c1,c2,h3,h4,h5,h6⟩:=blockC_ok hr
  obtain ⟨a1,⟨e,a2⟩,a3,a4⟩:=CS.binds_ok h3 h2
  obtain ⟨b1,⟨e',b2⟩,b3,b4⟩:=stepsC_le (fun s hs b' hb'=>blk_le_n p n b' (by have:=szB_inner hs hb';omega)) h4
  refine ⟨?_,?_,by rw [varB_eq];exact ⟨a3,b3⟩⟩
  ·rw [h6]
   exact a1.trans b1
  ·rw [h6]
   show c2.seen.take c.seen.length=c.seen
   rw [b2,a2,List.append_assoc,List.take_left]
theorem blk_le (p:Pg) (b:Bk):BlkLe p b:=blk_le_n p (szB b) b (Nat.le_refl _)
theorem foldl_le (l:List Int) (n N:Int) (h:l.foldl (fun n x=>max n (x+1)) n≤N):n≤N∧∀ x,x ∈ l→x<N:=by
 induction l generalizing n with
 |nil=>exact ⟨h,fun x h=>by cases h⟩
 |cons a l ih =>
  obtain ⟨h1,h2⟩:=ih _ h
  have h1:max n (a+1)≤N:=h1
  refine ⟨by omega,fun x hx=>?_⟩
  rcases List.mem_cons.1 hx with rfl|hx
  ·omega
  ·exact h2 x hx
theorem le_foldl (l:List Int) (n N:Int) (h1:n≤N) (h2:∀ x,x ∈ l→x<N):l.foldl (fun n x=>max n (x+1)) n≤N:=by
 induction l generalizing n with
 |nil=>exact h1
 |cons a l ih =>
  refine ih _ ?_ (fun x hx=>h2 x (List.mem_cons_of_mem _ hx))
  have:=h2 a List.mem_cons_self
  show max n (a+1)≤N
  omega
theorem sizXs_le:∀ (l:List Bk) (n N:Int),sizXs n l≤N→n≤N∧∀ b,b ∈ l→∀ x,x ∈ b.bind→x<N
 |[],n,N,h=>by rw [sizXs] at h;exact ⟨h,fun b h=>by cases h⟩
 |.mk c bind ss v :: l,n,N,h=>by
  rw [sizXs] at h
  obtain ⟨h1,h2⟩:=sizXs_le l _ N h
  obtain ⟨h3,h4⟩:=foldl_le _ _ _ h1
  refine ⟨h3,fun b hb=>?_⟩
  rcases List.mem_cons.1 hb with rfl|hb
  ·exact h4
  ·exact h2 b hb
theorem le_sizXs:∀ (l:List Bk) (n N:Int),n≤N→(∀ b,b ∈ l→∀ x,x ∈ b.bind→x<N)→sizXs n l≤N
 |[],n,N,h,_=>by rw [sizXs];exact h
 |.mk c bind ss v :: l,n,N,h,hb=>by
  rw [sizXs]
  exact le_sizXs l _ N (le_foldl _ _ _ h (hb _ List.mem_cons_self)) (fun b h=>hb b (List.mem_cons_of_mem _ h))
mutual
theorem sizB_le:∀ (b:Bk) (n N:Int),sizB n b≤N→n≤N∧varSs (· <N) b.steps
 |.mk _ _ steps _,n,N,h=>by rw [sizB] at h;exact sizSs_le steps n N h
theorem sizSs_le:∀ (l:List St) (n N:Int),sizSs n l≤N→n≤N∧varSs (· <N) l
 |[],n,N,h=>by rw [sizSs] at h;exact ⟨h,by rw [varSs];trivial⟩
 |s :: l,n,N,h=>by
  rw [sizSs] at h
  obtain ⟨h1,h2⟩:=sizSs_le l _ N h
  obtain ⟨h3,h4⟩:=sizS_le s n N h1
  exact ⟨h3,by rw [varSs];exact ⟨h4,h2⟩⟩
theorem sizS_le:∀ (s:St) (n N:Int),sizS n s≤N→n≤N∧varS (· <N) s
 |.mk op out ty args int code types effs regs modes region keep blocks,n,N,h=>by
  rw [sizS] at h
  obtain ⟨h1,h2⟩:=sizBs_le blocks _ N h
  obtain ⟨h3,h4⟩:=sizXs_le blocks _ N h1
  refine ⟨by omega,?_⟩
  rw [varS]
  refine ⟨by omega,varBs_of fun b hb=>?_⟩
  rw [varB_eq]
  exact ⟨h4 b hb,h2 b hb⟩
theorem sizBs_le:∀ (l:List Bk) (n N:Int),sizBs n l≤N→n≤N∧∀ b,b ∈ l→varSs (· <N) b.steps
 |[],n,N,h=>by rw [sizBs] at h;exact ⟨h,fun b h=>by cases h⟩
 |b :: l,n,N,h=>by
  rw [sizBs] at h
  obtain ⟨h1,h2⟩:=sizBs_le l _ N h
  obtain ⟨h3,h4⟩:=sizB_le b n N h1
  refine ⟨h3,fun x hx=>?_⟩
  rcases List.mem_cons.1 hx with rfl|hx
  ·exact h4
  ·exact h2 x hx
end
mutual
theorem le_sizB:∀ (b:Bk) (n:Int),n≤16384→varSs P16 b.steps→sizB n b≤16384
 |.mk _ _ steps _,n,hn,h=>by rw [sizB];exact le_sizSs steps n hn h
theorem le_sizSs:∀ (l:List St) (n:Int),n≤16384→varSs P16 l→sizSs n l≤16384
 |[],n,hn,_=>by rw [sizSs];exact hn
 |s :: l,n,hn,h=>by
  rw [varSs] at h
  rw [sizSs]
  exact le_sizSs l _ (le_sizS s n hn h.1) h.2
theorem le_sizS:∀ (s:St) (n:Int),n≤16384→varS P16 s→sizS n s≤16384
 |.mk op out ty args int code types effs regs modes region keep blocks,n,hn,h=>by
  rw [varS] at h
  rw [sizS]
  have h1:out<16384:=h.1.2
  refine le_sizBs blocks _ (le_sizXs blocks _ _ (by omega) (fun b hb x hx=>?_)) h.2
  have:=varBs_mem h.2 b hb
  rw [varB_eq] at this
  exact (this.1 x hx).2
theorem le_sizBs:∀ (l:List Bk) (n:Int),n≤16384→varBs P16 l→sizBs n l≤16384
 |[],n,hn,_=>by rw [sizBs];exact hn
 |b :: l,n,hn,h=>by
  rw [varBs] at h
  rw [sizBs]
  refine le_sizBs l _ (le_sizB b n hn ?_) h.2
  have:=h.1
  rw [varB_eq] at this
  exact this.2
end
mutual
theorem varB_and {P Q R:Int→Prop} (hr:∀ x,P x→Q x→R x):∀ (b:Bk),varB P b→varB Q b→varB R b
 |.mk _ bind steps _,h,h'=>by
  rw [varB] at h h' ⊢
  exact ⟨fun x hx=>hr x (h.1 x hx) (h'.1 x hx),varSs_and hr steps h.2 h'.2⟩
theorem varSs_and {P Q R:Int→Prop} (hr:∀ x,P x→Q x→R x):∀ (l:List St),varSs P l→varSs Q l→varSs R l
 |[],_,_=>by rw [varSs];trivial
 |s :: l,h,h'=>by
  rw [varSs] at h h' ⊢
  exact ⟨varS_and hr s h.1 h'.1,varSs_and hr l h.2 h'.2⟩
theorem varS_and {P Q R:Int→Prop} (hr:∀ x,P x→Q x→R x):∀ (s:St),varS P s→varS Q s→varS R s
 |.mk op out ty args int code types effs regs modes region keep blocks,h,h'=>by
  rw [varS] at h h' ⊢
  exact ⟨hr _ h.1 h'.1,varBs_and hr blocks h.2 h'.2⟩
theorem varBs_and {P Q R:Int→Prop} (hr:∀ x,P x→Q x→R x):∀ (l:List Bk),varBs P l→varBs Q l→varBs R l
 |[],_,_=>by rw [varBs];trivial
 |b :: l,h,h'=>by
  rw [varBs] at h h' ⊢
  exact ⟨varB_and hr b h.1 h'.1,varBs_and hr l h.2 h'.2⟩
end
end
section
open Go Go.RowKit
def VT (p:Pg) (S:List Tp) (v:Vl):Tp→Prop
 |.mk k n args=>k=0∨(k=1∧(v.word=0∨v.word=1))∨k=2 ∨
  (k=4∧v.cell=none∧0≤v.word∧∃ con,(consOf p n)[v.word.toNat]? =some con∧con.fields=[]) ∨
  (4≤k∧k≤8∧∃ i,v.cell=some i∧S[i]? =some (.mk k n args))
def VTs (p:Pg) (S:List Tp):List Vl→List Tp→Prop
 |[],[]=>True
 |v :: l,t :: m=>VT p S v t∧VTs p S l m
 |_,_=>False
theorem pre_get {α:Type} {S S':List α} (h:S <+: S') {i:Nat} {t:α} (e:S[i]? =some t):S'[i]? =some t:=by
 obtain ⟨r,rfl⟩:=h
 rw [List.getElem?_append_left (List.getElem?_eq_some_iff.1 e).1,e]
theorem VT.mono {p:Pg} {S S':List Tp} (h:S <+: S') {v:Vl}:∀ {t:Tp},VT p S v t→VT p S' v t
 |.mk k n args,hv=>by
  rcases hv with h1|h1|h1|h1|⟨h1,h2,i,h3,h4⟩
  ·exact .inl h1
  ·exact .inr (.inl h1)
  ·exact .inr (.inr (.inl h1))
  ·exact .inr (.inr (.inr (.inl h1)))
  ·exact .inr (.inr (.inr (.inr ⟨h1,h2,i,h3,pre_get h h4⟩)))
theorem VTs.mono {p:Pg} {S S':List Tp} (h:S <+: S'):∀ {l:List Vl} {m:List Tp},VTs p S l m→VTs p S' l m
 |[],[],_=>trivial
 |v :: l,t :: m,hv=>⟨hv.1.mono h,VTs.mono h hv.2⟩
 |[],_ :: _,hv=>hv.elim
 |_ :: _,[],hv=>hv.elim
theorem VTs.len {p:Pg} {S:List Tp}:∀ {l:List Vl} {m:List Tp},VTs p S l m→l.length=m.length
 |[],[],_=>rfl
 |v :: l,t :: m,hv=>by rw [List.length_cons,List.length_cons,VTs.len hv.2]
 |[],_ :: _,hv=>hv.elim
 |_ :: _,[],hv=>hv.elim
theorem VTs.get {p:Pg} {S:List Tp}:∀ {l:List Vl} {m:List Tp},VTs p S l m→∀ {i:Nat} {t:Tp},m[i]? =some t→∃ v,l[i]? =some v∧VT p S v t
 |[],[],_,i,t,e=>by simp at e
 |v :: l,t :: m,hv,0,u,e=>by
  simp only [List.getElem?_cons_zero,Option.some.injEq] at e
  exact ⟨v,rfl,e ▸ hv.1⟩
 |v :: l,t :: m,hv,i+1,u,e=>by
  simp only [List.getElem?_cons_succ] at e
  obtain ⟨w,h1,h2⟩:=VTs.get hv.2 e
  exact ⟨w,by rw [List.getElem?_cons_succ];exact h1,h2⟩
 |[],_ :: _,hv,_,_,_=>hv.elim
 |_ :: _,[],hv,_,_,_=>hv.elim
theorem VTs.set {p:Pg} {S:List Tp}:∀ {l:List Vl} {m:List Tp},VTs p S l m→∀ {i:Nat} {t:Tp} {v:Vl},m[i]? =some t→VT p S v t→VTs p S (l.set i v) m
 |[],[],_,i,t,v,e,_=>by simp at e
 |v :: l,t :: m,hv,0,u,v',e,h=>by
  simp only [List.getElem?_cons_zero,Option.some.injEq] at e
  exact ⟨e ▸ h,hv.2⟩
 |v :: l,t :: m,hv,i+1,u,v',e,h=>by
  simp only [List.getElem?_cons_succ] at e
  exact ⟨hv.1,VTs.set hv.2 e h⟩
 |[],_ :: _,hv,_,_,_,_,_=>hv.elim
 |_ :: _,[],hv,_,_,_,_,_=>hv.elim
theorem VT.cell {p:Pg} {S:List Tp} {v:Vl} {k n:Int} {args:List Tp} (h:VT p S v (.mk k n args)) (h5:5≤k):∃ i,v.cell=some i∧S[i]? =some (.mk k n args):=by
 rcases h with h1|h1|h1|h1|⟨h1,h2,i,h3,h4⟩
 ·omega
 ·omega
 ·omega
 ·omega
 ·exact ⟨i,h3,h4⟩
theorem VT.mk {p:Pg} {S:List Tp} {v:Vl} {k n:Int} {args:List Tp} {i:Nat} (h4:4≤k) (h8:k≤8) (hv:v.cell=some i) (hs:S[i]? =some (.mk k n args)):VT p S v (.mk k n args) :=
 .inr (.inr (.inr (.inr ⟨h4,h8,i,hv,hs⟩)))
section
variable {α:Type} {l:List α} {x:Int}
include α l x
theorem atI_ok {i:Nat} {v:α} (hx:x=i) (h:l[i]? =some v):atI l x=some v:=by
 subst hx
 unfold atI
 rw [if_neg (by omega),Int.toNat_natCast,h]
theorem atI_getP {v:α} (h:atI l x=some v):0≤x∧l[x.toNat]? =some v:=by
 unfold atI at h
 split at h
 ·cases h
 ·exact ⟨by omega,h⟩
theorem setI_ok (v:α) (h1:0≤x) (h2:x<l.length):setI l x v=some (l.set x.toNat v):=by
 unfold setI
 rw [if_pos ⟨h1,h2⟩]
end
def FrOk (p:Pg) (θ:List Tp) (S:List Tp) (c:CS) (fr:Fr):Prop:=∀ x t,c.of x=some t→∃ v,atI fr x=some v∧VT p S v (sb θ (er t))
theorem FrOk.mono {p:Pg} {θ S S':List Tp} {c:CS} {fr:Fr} (h:FrOk p θ S c fr) (hs:S <+: S'):FrOk p θ S' c fr:=fun x t e=>by
 obtain ⟨v,h1,h2⟩:=h x t e
 exact ⟨v,h1,h2.mono hs⟩
section
variable {p:Pg} {θ S:List Tp} {c c':CS} {fr:Fr}
include p θ S c c' fr
theorem FrOk.back (h:FrOk p θ S c fr) (hw:c.wf) (hl:c.le c') (hs:c'.seen=c.seen):FrOk p θ S c' fr:=fun x t e=>h x t (CS.le.back hw hl hs e)
theorem FrOk.less (h:FrOk p θ S c' fr) (hl:c.le c') (hs:∀ x,x ∈ c.seen→x ∈ c'.seen):FrOk p θ S c fr:=fun x t e=>h x t (hl.of hs e)
theorem FrOk.set {x:Int} {t:Ty} {v:Vl} (h:FrOk p θ S c fr) (hb:c.bind x t=some c') (hv:VT p S v (sb θ (er t))) (hx:x<fr.length):FrOk p θ S c' (fr.set x.toNat v):=fun y u e=>by
 have h0:0≤x:=(CS.bind_some hb).2.2.1
 rcases CS.bind_of hb e with ⟨rfl,rfl⟩|⟨hne,e⟩
 ·refine ⟨v,?_,hv⟩
  unfold atI
  rw [if_neg (by omega),List.getElem?_set_self (by omega)]
 ·obtain ⟨w,h1,h2⟩:=h y u e
  refine ⟨w,?_,h2⟩
  obtain ⟨h3,h4⟩:=atI_getP h1
  unfold atI
  rw [if_neg (by omega),List.getElem?_set_ne (by omega),h4]
end
theorem bindAll_ok {p:Pg} {θ S:List Tp}:∀ {l:List Int} {ts:List Ty} {vs:List Vl} {c c':CS} {fr:Fr},c.binds l ts=some c'→l.length=ts.length→VTs p S vs (sbL θ (erL ts))→FrOk p θ S c fr→(∀ x,x ∈ l→x<fr.length) →
 ∃ fr',bindAll fr l vs=some fr'∧FrOk p θ S c' fr'∧fr'.length=fr.length
 |[],ts,vs,c,c',fr,h,_,_,hf,_=>by
  simp only [CS.binds] at h
  cases h
  refine ⟨fr,?_,hf,rfl⟩
  unfold bindAll
  rfl
 |x :: l,[],vs,c,c',fr,h,hl,_,_,_=>by simp at hl
 |x :: l,t :: ts,[],c,c',fr,h,_,hv,_,_=>by
  rw [erL,sbL] at hv
  exact hv.elim
 |x :: l,t :: ts,v :: vs,c,c',fr,h,hl,hv,hf,hx=>by
  simp only [CS.binds] at h
  split at h
  ·rename_i c1 h1
   rw [erL,sbL] at hv
   have hxl:=hx x List.mem_cons_self
   have h0:0≤x:=(CS.bind_some h1).2.2.1
   obtain ⟨fr',e1,e2,e3⟩:=bindAll_ok h (by simpa using hl) hv.2 (hf.set h1 hv.1 hxl) (fun y hy=>by rw [List.length_set];exact hx y (List.mem_cons_of_mem _ hy))
   refine ⟨fr',?_,e2,by rw [e3,List.length_set]⟩
   unfold bindAll
   rw [setI_ok v h0 hxl]
   exact e1
  ·cases h
theorem collect_ok {p:Pg} {θ S:List Tp} {c:CS} {fr:Fr} (hf:FrOk p θ S c fr):∀ {l:List Int} {ts:List Ty},c.all l=some ts→∃ vs,collect fr l=some vs∧VTs p S vs (sbL θ (erL ts))
 |[],ts,h=>by
  simp only [CS.all] at h
  cases h
  exact ⟨[],rfl,by rw [erL,sbL];trivial⟩
 |x :: l,ts,h=>by
  simp only [CS.all] at h
  split at h
  ·rename_i t m h1 h2
   cases h
   obtain ⟨v,e1,e2⟩:=hf x t h1
   obtain ⟨vs,e3,e4⟩:=collect_ok hf h2
   refine ⟨v :: vs,?_,by rw [erL,sbL];exact ⟨e2,e4⟩⟩
   rw [collect,e1,Option.bind_some,e3]
   rfl
  ·cases h
def CloT (p:Pg) (S:List Tp) (c:Cl) (args:List Tp):Prop :=
 ∃ b ty θ cs A r,c.block=some b∧cs.wf∧blockC p ty cs [A] 0 b= .ok r∧args=[sb θ (er A),sb θ (er r.2)]∧FrOk p θ S cs c.parts∧varB (fun x=>0≤x∧x<c.parts.length) b∧szB b≤512
def CellT (p:Pg) (S:List Tp) (c:Cl):Tp→Prop
 |.mk k n args =>
  (k=4∧0≤c.code∧∃ d con,p.datas[n.toNat]? =some d∧args.length=d.vars.length∧(consOf p n)[c.code.toNat]? =some con∧VTs p S c.parts (sbL args (erL con.fields))) ∨
  ((k=5∨k=7)∧VTs p S c.parts args)∨(k=8∧∀ t,args[0]? =some t→∀ v,v ∈ c.parts→VT p S v t)∨(k=6∧CloT p S c args)
theorem CellT.mono {p:Pg} {S S':List Tp} (h:S <+: S') {c:Cl}:∀ {t:Tp},CellT p S c t→CellT p S' c t
 |.mk k n args,hc=>by
  rcases hc with ⟨h1,h2,d,con,h3,h4,h5,h6⟩|⟨h1,h2⟩|⟨h1,h2⟩|⟨h1,b,ty,θ,cs,A,r,h2,h3,h4,h5,h6,h7⟩
  ·exact .inl ⟨h1,h2,d,con,h3,h4,h5,h6.mono h⟩
  ·exact .inr (.inl ⟨h1,h2.mono h⟩)
  ·exact .inr (.inr (.inl ⟨h1,fun t e v hv=>(h2 t e v hv).mono h⟩))
  ·exact .inr (.inr (.inr ⟨h1,b,ty,θ,cs,A,r,h2,h3,h4,h5,h6.mono h,h7⟩))
structure HpT (p:Pg) (fuel:Int) (S:List Tp) (h:Hp):Prop where
 len:S.length=h.cells.length
 cell:∀ (i:Nat) (c:Cl) (t:Tp),h.cells[i]? =some c→S[i]? =some t→CellT p S c t
 t0:0≤h.ticks
 t1:h.ticks≤fuel
section
variable {p:Pg} {fuel:Int} {S:List Tp} {h:Hp} (hh:HpT p fuel S h)
include p fuel S h hh
theorem HpT.of {v:Vl} {k n:Int} {args:List Tp} (hv:VT p S v (.mk k n args)) (h5:5≤k):∃ i c,v.cell=some i∧h.cells[i]? =some c∧S[i]? =some (.mk k n args)∧h.of v=some (i,c)∧CellT p S c (.mk k n args):=by
 obtain ⟨i,h1,h2⟩:=hv.cell h5
 have hlt:i<h.cells.length:=by rw [←hh.len];exact (List.getElem?_eq_some_iff.1 h2).1
 refine ⟨i,h.cells[i],h1,List.getElem?_eq_getElem hlt,h2,?_,hh.cell i _ _ (List.getElem?_eq_getElem hlt) h2⟩
 unfold Hp.of
 rw [h1,Option.bind_some,List.getElem?_eq_getElem hlt]
 rfl
theorem HpT.new {c:Cl} {k n:Int} {args:List Tp} (h4:4≤k) (h8:k≤8) (hc:CellT p S c (.mk k n args)) :
 HpT p fuel (S++[.mk k n args]) (h.new c).2∧VT p (S++[.mk k n args]) (h.new c).1 (.mk k n args)∧S <+: S++[.mk k n args]:=by
 have hp:S <+: S++[.mk k n args]:=⟨_,rfl⟩
 refine ⟨⟨?_,?_,hh.t0,hh.t1⟩,?_,hp⟩
 ·show _=(h.cells++[c]).length
  rw [List.length_append,List.length_append,hh.len]
  rfl
 ·intro i c' t h1 h2
  have h1:(h.cells++[c])[i]? =some c':=h1
  by_cases hi:i<h.cells.length
  ·rw [List.getElem?_append_left hi] at h1
   rw [List.getElem?_append_left (by rw [hh.len];exact hi)] at h2
   exact (hh.cell i c' t h1 h2).mono hp
  ·have hl:=(List.getElem?_eq_some_iff.1 h1).1
   rw [List.length_append,List.length_singleton] at hl
   obtain rfl:i=h.cells.length:=by omega
   rw [List.getElem?_append_right (Nat.le_refl _),Nat.sub_self] at h1
   rw [List.getElem?_append_right (by rw [hh.len];exact Nat.le_refl _),hh.len,Nat.sub_self] at h2
   cases h1
   cases h2
   exact hc.mono hp
 ·refine VT.mk h4 h8 (i:=h.cells.length) rfl ?_
  rw [List.getElem?_append_right (by rw [hh.len];exact Nat.le_refl _),hh.len,Nat.sub_self]
  rfl
theorem HpT.put {i:Nat} {t:Tp} (hi:S[i]? =some t) {c:Cl} (hc:CellT p S c t):HpT p fuel S (h.put i c):=by
 refine ⟨?_,?_,hh.t0,hh.t1⟩
 ·show _=(h.cells.set i c).length
  rw [List.length_set,hh.len]
 ·intro j c' u h1 h2
  have h1:(h.cells.set i c)[j]? =some c':=h1
  by_cases hj:i=j
  ·subst hj
   rw [hi] at h2
   cases h2
   have hlt:i<h.cells.length:=by rw [←hh.len];exact (List.getElem?_eq_some_iff.1 hi).1
   rw [List.getElem?_set_self hlt] at h1
   cases h1
   exact hc
  ·rw [List.getElem?_set_ne hj] at h1
   exact hh.cell j c' u h1 h2
end
theorem HpT.like {p:Pg} {fuel:Int} {S:List Tp} {h h':Hp} (hh:HpT p fuel S h) (hc:h'.cells=h.cells) (h0:0≤h'.ticks) (h1:h'.ticks≤fuel):HpT p fuel S h' :=
 ⟨by rw [hc];exact hh.len,fun i c t e=>hh.cell i c t (by rw [←hc];exact e),h0,h1⟩
end
section
open Go Go.RowKit
structure Moves (p:Pg) (fuel:Int) (S:List Tp) (h:Hp) (S':List Tp) (h':Hp) (k:Int):Prop where
 pre:S <+: S'
 hp:HpT p fuel S' h'
 tick:h.ticks≤h'.ticks
 outs:(h'.outs.length:Int)-512*h'.ticks≤h.outs.length-512*h.ticks+k
def RoomH (fuel:Int) (h:Hp) (k:Int):Prop:=(h.outs.length:Int)-512*h.ticks+k+512*fuel≤999999999
def AnsT (p:Pg) (fuel:Int) (S:List Tp) (h':Hp) (t:Tp):Ans→Prop
 |.ok v=>VT p S v t
 |.error g=>g.code<p.exns.length∧(g.code<0→h'.ticks=fuel)
structure PgOk (p:Pg):Prop where
 exns:3≤p.exns.length
 funs:∀ (i:Nat) (f:Fu),p.funs[i]? =some f→formedL p.datas f.types f.params=true∧formedL p.datas f.types [f.result]=true∧funC p f= .ok ()∧szB f.body≤512
 cons:∀ (i:Nat) (d:Dat) (con:Con),p.datas[i]? =some d→con ∈ d.cons→clL d.vars.length (erL con.fields)
section
variable {p:Pg} {fuel:Int}
include p fuel
theorem Moves.refl {S:List Tp} {h:Hp} {k:Int} (hh:HpT p fuel S h) (hk:0≤k):Moves p fuel S h S h k:=⟨List.prefix_refl _,hh,Int.le_refl _,by omega⟩
theorem Moves.more {S S':List Tp} {h h':Hp} {k k':Int} (hm:Moves p fuel S h S' h' k) (hk:k≤k'):Moves p fuel S h S' h' k':=⟨hm.pre,hm.hp,hm.tick,by have:=hm.outs;omega⟩
theorem Moves.trans {S S1 S2:List Tp} {h h1 h2:Hp} {k k':Int} (a:Moves p fuel S h S1 h1 k) (b:Moves p fuel S1 h1 S2 h2 k'):Moves p fuel S h S2 h2 (k+k') :=
 ⟨a.pre.trans b.pre,b.hp,Int.le_trans a.tick b.tick,by have:=a.outs;have:=b.outs;omega⟩
theorem Moves.room {S S':List Tp} {h h':Hp} {k k':Int} (hm:Moves p fuel S h S' h' k) (hr:RoomH fuel h (k+k')):RoomH fuel h' k':=by
 unfold RoomH at *
 have:=hm.outs
 omega
end
theorem RoomH.less {fuel:Int} {h:Hp} {k k':Int} (hr:RoomH fuel h k) (hk:k'≤k):RoomH fuel h k':=by
 unfold RoomH at *
 omega
theorem er_of_same {a b:Ty} (h:sameL [a] [b]=true):er a=er b:=by
 have:=sameL_er _ _ h
 rw [erL,erL,erL,erL] at this
 exact (List.cons.inj this).1
theorem erL_nil {l:List Ty} (h:erL l=[]):l=[]:=by
 cases l with
 |nil=>rfl
 |cons a l=>rw [erL] at h;cases h
theorem erL_cons {l:List Ty} {x:Tp} {m:List Tp} (h:erL l=x :: m):∃ a l',l=a :: l'∧er a=x∧erL l'=m:=by
 cases l with
 |nil=>rw [erL] at h;cases h
 |cons a l =>
  rw [erL] at h
  exact ⟨a,l,rfl,(List.cons.inj h).1,(List.cons.inj h).2⟩
theorem VTs.cons {p:Pg} {S:List Tp} {vs:List Vl} {t:Tp} {m:List Tp} (h:VTs p S vs (t :: m)):∃ v l,vs=v :: l∧VT p S v t∧VTs p S l m:=by
 cases vs with
 |nil=>exact h.elim
 |cons v l=>exact ⟨v,l,rfl,h.1,h.2⟩
theorem VTs.nil {p:Pg} {S:List Tp} {vs:List Vl} (h:VTs p S vs []):vs=[]:=by
 cases vs with
 |nil=>rfl
 |cons v l=>exact h.elim
theorem er_int:er intT= .mk 0 0 []:=rfl
theorem er_bool:er boolT= .mk 1 0 []:=rfl
theorem er_unit:er unitT= .mk 2 0 []:=rfl
theorem er_kind (k:Int) (l:List Ty):er (kindT k l)= .mk k 0 (erL l):=rfl
section
variable {p:Pg} {S θ:List Tp} {v:Vl} {t:Ty}
include p S θ v t
theorem VT.int (h:er t=er intT):VT p S v (sb θ (er t)):=by
 rw [h,er_int,sb_no (by decide)]
 exact .inl rfl
theorem VT.unit (h:er t=er unitT):VT p S v (sb θ (er t)):=by
 rw [h,er_unit,sb_no (by decide)]
 exact .inr (.inr (.inl rfl))
theorem VT.bool (h:er t=er boolT) (hw:v.word=0∨v.word=1):VT p S v (sb θ (er t)):=by
 rw [h,er_bool,sb_no (by decide)]
 exact .inr (.inl ⟨rfl,hw⟩)
end
theorem asked_ok {s:St} {tys:List Ty} {r:Ty} {want:List Ty} (h:asked s tys r want=true):er s.ty=er r∧erL tys=erL want:=by
 unfold asked at h
 rw [Bool.and_eq_true] at h
 exact ⟨er_of_same h.1,sameL_er _ _ h.2⟩
def SimpT (p:Pg) (fuel:Int) (S:List Tp) (h:Hp) (t:Tp) (r:Option (Ans × Hp)):Prop:=∃ a h' S',r=some (a,h')∧AnsT p fuel S' h' t a∧Moves p fuel S h S' h' 1
theorem SimpT.here {p:Pg} {fuel:Int} {S:List Tp} {h:Hp} {t:Tp} {a:Ans} (hh:HpT p fuel S h) (ha:AnsT p fuel S h t a):SimpT p fuel S h t (some (a,h)):=⟨a,h,S,rfl,ha,Moves.refl hh (by decide)⟩
theorem SimpT.new {p:Pg} {fuel:Int} {S:List Tp} {h:Hp} {c:Cl} {k n:Int} {args:List Tp} (hh:HpT p fuel S h) (h4:4≤k) (h8:k≤8) (hc:CellT p S c (.mk k n args)):SimpT p fuel S h (.mk k n args) (some (.ok (h.new c).1,(h.new c).2)):=by
 obtain ⟨h1,h2,h3⟩:=hh.new h4 h8 hc
 exact ⟨_,_,_,rfl,h2,h3,h1,Int.le_refl _,by show (h.outs.length:Int)-512*h.ticks≤_;omega⟩
section
variable {p:Pg} {s:St} {tys:List Ty}
include p s tys
theorem typedP_5 (ho:s.op=5) (ht:typedC p s tys=true):∃ a t,tys=[a]∧a.kind=5∧0≤s.int∧a.args[s.int.toNat]? =some t∧sameL [s.ty] [t]=true:=by
 unfold typedC at ht
 rw [if_neg (by omega),if_neg (by omega),if_neg (by omega),if_neg (by omega),if_neg (by omega),if_pos ho] at ht
 split at ht
 ·rename_i a
  rw [Bool.and_eq_true,Bool.and_eq_true] at ht
  obtain ⟨⟨h1,h2⟩,h3⟩:=ht
  cases hx:a.args[s.int.toNat]?
  ·rw [hx] at h3;cases h3
  ·rw [hx] at h3
   exact ⟨a,_,rfl,of_decide_eq_true h1,of_decide_eq_true h2,hx,h3⟩
 ·cases ht
theorem typedP_11 (ho:s.op=11) (ht:typedC p s tys=true):∃ a b,tys=[a,b]∧asked s tys unitT [kindT 7 [b],b]=true:=by
 unfold typedC at ht
 rw [if_neg (by omega),if_neg (by omega),if_neg (by omega),if_neg (by omega),if_neg (by omega),if_neg (by omega),if_neg (by omega),if_neg (by omega),if_neg (by omega),if_neg (by omega),if_pos ho] at ht
 split at ht
 ·exact ⟨_,_,rfl,ht⟩
 ·cases ht
theorem typedP_8 (ho:s.op=8) (ht:typedC p s tys=true):∃ a b,tys=[a,b]∧a.kind=6∧sameL a.args [b,s.ty]=true:=by
 unfold typedC at ht
 rw [if_neg (by omega),if_neg (by omega),if_neg (by omega),if_neg (by omega),if_neg (by omega),if_neg (by omega),if_neg (by omega),if_pos ho] at ht
 split at ht
 ·rw [Bool.and_eq_true] at ht
  exact ⟨_,_,rfl,of_decide_eq_true ht.1,ht.2⟩
 ·cases ht
theorem typedP_12 (ho:s.op=12) (ht:typedC p s tys=true):s.ty.kind=8∧∃ t m,s.ty.args=t :: m∧asked s tys s.ty [intT,t]=true:=by
 unfold typedC at ht
 rw [if_neg (by omega),if_neg (by omega),if_neg (by omega),if_neg (by omega),if_neg (by omega),if_neg (by omega),if_neg (by omega),if_neg (by omega),if_neg (by omega),if_neg (by omega),if_neg (by omega),if_pos ho,Bool.and_eq_true] at ht
 refine ⟨of_decide_eq_true ht.1,?_⟩
 have h2:=ht.2
 split at h2
 ·exact ⟨_,_,by assumption,h2⟩
 ·cases h2
end
section
variable {p:Pg} {fuel:Int} {S θ:List Tp} {h:Hp} {s:St} {tys:List Ty} {vs:List Vl} {K:Ctx} {fr:Fr}
theorem safe_0 (hh:HpT p fuel S h) (ho:s.op=0) (ht:typedC p s tys=true):SimpT p fuel S h (sb θ (er s.ty)) (simpleR K s.op s.int s.code s.blocks vs fr h):=by
 have e:typedC p s tys=asked s tys intT []:=by unfold typedC;rw [ho];rfl
 rw [e] at ht
 have e2:simpleR K s.op s.int s.code s.blocks vs fr h=some (.ok (wd s.int),h):=by unfold simpleR;rw [ho];rfl
 rw [e2]
 exact .here hh (VT.int (asked_ok ht).1)
theorem safe_1 (hh:HpT p fuel S h) (ho:s.op=1) (hp:plainStep s=true) (ht:typedC p s tys=true):SimpT p fuel S h (sb θ (er s.ty)) (simpleR K s.op s.int s.code s.blocks vs fr h):=by
 have e:typedC p s tys=asked s tys boolT []:=by unfold typedC;rw [ho];rfl
 rw [e] at ht
 have e2:simpleR K s.op s.int s.code s.blocks vs fr h=some (.ok (wd s.int),h):=by unfold simpleR;rw [ho];rfl
 rw [e2]
 refine .here hh (VT.bool (asked_ok ht).1 ?_)
 show s.int=0∨s.int=1
 unfold plainStep at hp
 simp only [Bool.and_eq_true] at hp
 have hi:=hp.1.1.1.2
 simp only [Bool.or_eq_true,Bool.and_eq_true] at hi
 rcases hi with ((h1|h1)|⟨h1,h2⟩)|h1
 ·have:=of_decide_eq_true h1;omega
 ·have:=of_decide_eq_true h1;omega
 ·rcases h2 with h2|h2
  ·exact .inl (of_decide_eq_true h2)
  ·exact .inr (of_decide_eq_true h2)
 ·exact .inl (of_decide_eq_true h1)
theorem safe_2 (hh:HpT p fuel S h) (ho:s.op=2) (ht:typedC p s tys=true):SimpT p fuel S h (sb θ (er s.ty)) (simpleR K s.op s.int s.code s.blocks vs fr h):=by
 have e:typedC p s tys=asked s tys unitT []:=by unfold typedC;rw [ho];rfl
 rw [e] at ht
 have e2:simpleR K s.op s.int s.code s.blocks vs fr h=some (.ok nilV,h):=by unfold simpleR;rw [ho];rfl
 rw [e2]
 exact .here hh (VT.unit (asked_ok ht).1)
theorem consOf_some {n:Int} {d:Dat} (hd:p.datas[n.toNat]? =some d):consOf p n=d.cons:=by
 unfold consOf
 rw [hd]
 rfl
theorem safe_3 (hP:PgOk p) (hh:HpT p fuel S h) (ho:s.op=3) (ht:typedC p s tys=true) {v:Int} (hf:formedL p.datas v [s.ty]=true) (hv:VTs p S vs (sbL θ (erL tys))):SimpT p fuel S h (sb θ (er s.ty)) (simpleR K s.op s.int s.code s.blocks vs fr h):=by
 have e:typedC p s tys=(decide (s.ty.kind=4) && decide (0≤s.code) && ((consOf p s.ty.n)[s.code.toNat]?).elim false fun c=>sameAtL s.ty.args c.fields tys):=by unfold typedC;rw [ho];rfl
 rw [e,Bool.and_eq_true,Bool.and_eq_true] at ht
 obtain ⟨⟨h1,h2⟩,h3⟩:=ht
 have h1:=of_decide_eq_true h1
 have h2:=of_decide_eq_true h2
 obtain ⟨con,hc⟩:∃ con,(consOf p s.ty.n)[s.code.toNat]? =some con:=by
  cases hx:(consOf p s.ty.n)[s.code.toNat]?
  ·rw [hx] at h3;cases h3
  ·exact ⟨_,rfl⟩
 rw [hc] at h3
 have h3:sameAtL s.ty.args con.fields tys=true:=h3
 have h4:=sameAtL_sb _ _ _ h3
 rw [formedL,Bool.and_eq_true] at hf
 obtain ⟨d,d1,d2,d3⟩:=formed1_dataP hf.1 h1
 have hcl:=hP.cons _ d con d2 (by rw [consOf_some d2] at hc;exact List.mem_of_getElem? hc)
 rw [h4,sbL_sbL _ _ _ (by rw [erL_len,d3];exact hcl)] at hv
 have et:sb θ (er s.ty)= .mk 4 s.ty.n (sbL θ (erL s.ty.args)):=by rw [er_eq,h1,sb_no (by decide)]
 have hlen:=hv.len
 rw [sbL_len,erL_len] at hlen
 have e2:simpleR K s.op s.int s.code s.blocks vs fr h=if vs.length=0 then some (.ok (wd s.code),h) else some (.ok (h.new ⟨s.code,vs,none⟩).1,(h.new ⟨s.code,vs,none⟩).2):=by unfold simpleR;rw [ho];rfl
 rw [e2,et]
 split
 ·rename_i hz
  refine .here hh ?_
  exact .inr (.inr (.inr (.inl ⟨rfl,rfl,h2,con,hc,List.length_eq_zero_iff.1 (by omega)⟩)))
 ·refine .new hh (by decide) (by decide) ?_
  exact .inl ⟨rfl,h2,d,con,d2,by rw [sbL_len,erL_len,d3],hc,hv⟩
theorem safe_4 (hh:HpT p fuel S h) (ho:s.op=4) (ht:typedC p s tys=true) (hv:VTs p S vs (sbL θ (erL tys))):SimpT p fuel S h (sb θ (er s.ty)) (simpleR K s.op s.int s.code s.blocks vs fr h):=by
 have e:typedC p s tys=(decide (s.ty.kind=5) && sameL tys s.ty.args):=by unfold typedC;rw [ho];rfl
 rw [e,Bool.and_eq_true] at ht
 have h1:=of_decide_eq_true ht.1
 have e2:simpleR K s.op s.int s.code s.blocks vs fr h=some (.ok (h.new ⟨0,vs,none⟩).1,(h.new ⟨0,vs,none⟩).2):=by unfold simpleR;rw [ho];rfl
 rw [sameL_er _ _ ht.2] at hv
 rw [e2,er_eq,h1,sb_no (by decide)]
 exact .new hh (by decide) (by decide) (.inr (.inl ⟨.inl rfl,hv⟩))
theorem safe_9 (hh:HpT p fuel S h) (ho:s.op=9) (ht:typedC p s tys=true) (hv:VTs p S vs (sbL θ (erL tys))):SimpT p fuel S h (sb θ (er s.ty)) (simpleR K s.op s.int s.code s.blocks vs fr h):=by
 have e:typedC p s tys=(decide (s.ty.kind=7) && sameL tys s.ty.args):=by unfold typedC;rw [ho];rfl
 rw [e,Bool.and_eq_true] at ht
 have h1:=of_decide_eq_true ht.1
 have e2:simpleR K s.op s.int s.code s.blocks vs fr h=some (.ok (h.new ⟨0,vs,none⟩).1,(h.new ⟨0,vs,none⟩).2):=by unfold simpleR;rw [ho];rfl
 rw [sameL_er _ _ ht.2] at hv
 rw [e2,er_eq,h1,sb_no (by decide)]
 exact .new hh (by decide) (by decide) (.inr (.inl ⟨.inr rfl,hv⟩))
theorem CellT.parts {c:Cl} {k n:Int} {args:List Tp} (hk:k=5∨k=7) (hc:CellT p S c (.mk k n args)):VTs p S c.parts args:=by
 rcases hc with ⟨h1,_⟩|⟨_,h2⟩|⟨h1,_⟩|⟨h1,_⟩
 ·omega
 ·exact h2
 ·omega
 ·omega
theorem CellT.elems {c:Cl} {n:Int} {t:Tp} (hc:CellT p S c (.mk 8 n [t])):∀ v,v ∈ c.parts→VT p S v t:=by
 rcases hc with ⟨h1,_⟩|⟨h1,_⟩|⟨_,h2⟩|⟨h1,_⟩
 ·omega
 ·omega
 ·exact h2 t rfl
 ·omega
theorem safe_5 (hh:HpT p fuel S h) (ho:s.op=5) (ht:typedC p s tys=true) (hv:VTs p S vs (sbL θ (erL tys))):SimpT p fuel S h (sb θ (er s.ty)) (simpleR K s.op s.int s.code s.blocks vs fr h):=by
 obtain ⟨a,t,rfl,h1,h2,hc,h3⟩:=typedP_5 ho ht
 rw [erL,erL,sbL,sbL,er_eq a,h1,sb_no (by decide)] at hv
 obtain ⟨v,l,rfl,hv1,hv2⟩:=hv.cons
 obtain ⟨i,c,c1,c2,c3,c4,c5⟩:=hh.of hv1 (by decide)
 have c6:=c5.parts (.inl rfl)
 obtain ⟨w,w1,w2⟩:=c6.get (i:=s.int.toNat) (t:=sb θ (er t)) (by rw [sbL_get,erL_get,hc];rfl)
 have e2:simpleR K s.op s.int s.code s.blocks (v :: l) fr h=some (.ok w,h):=by
  have e2:simpleR K s.op s.int s.code s.blocks (v :: l) fr h=(h.of v).bind fun kc=>(atI kc.2.parts s.int).map fun v=>(.ok v,h):=by unfold simpleR;rw [ho];rfl
  rw [e2,c4,Option.bind_some,atI_ok (i:=s.int.toNat) (by omega) w1]
  rfl
 rw [e2,er_of_same h3]
 exact .here hh w2
theorem safe_10 (hh:HpT p fuel S h) (ho:s.op=10) (ht:typedC p s tys=true) (hv:VTs p S vs (sbL θ (erL tys))):SimpT p fuel S h (sb θ (er s.ty)) (simpleR K s.op s.int s.code s.blocks vs fr h):=by
 have e:typedC p s tys=asked s tys s.ty [kindT 7 [s.ty]]:=by unfold typedC;rw [ho];rfl
 rw [e] at ht
 obtain ⟨_,h2⟩:=asked_ok ht
 rw [h2,erL,erL,er_kind,sbL,sbL,sb_no (by decide),erL,erL,sbL,sbL] at hv
 obtain ⟨v,l,rfl,hv1,hv2⟩:=hv.cons
 obtain ⟨i,c,c1,c2,c3,c4,c5⟩:=hh.of hv1 (by decide)
 obtain ⟨w,w1,w2⟩:=(c5.parts (.inr rfl)).get (i:=0) (t:=sb θ (er s.ty)) rfl
 have e2:simpleR K s.op s.int s.code s.blocks (v :: l) fr h=some (.ok w,h):=by
  have e2:simpleR K s.op s.int s.code s.blocks (v :: l) fr h=(h.of v).bind fun kc=>(atI kc.2.parts 0).map fun v=>(.ok v,h):=by unfold simpleR;rw [ho];rfl
  have a0:atI c.parts 0=some w:=atI_ok (i:=0) rfl w1
  rw [e2,c4,Option.bind_some]
  show (atI c.parts 0).map _=_
  rw [a0]
  rfl
 rw [e2]
 exact .here hh w2
theorem safe_11 (hh:HpT p fuel S h) (ho:s.op=11) (ht:typedC p s tys=true) (hv:VTs p S vs (sbL θ (erL tys))):SimpT p fuel S h (sb θ (er s.ty)) (simpleR K s.op s.int s.code s.blocks vs fr h):=by
 obtain ⟨a,b,rfl,ht⟩:=typedP_11 ho ht
 obtain ⟨h1,h2⟩:=asked_ok ht
 rw [h2,erL,erL,erL,er_kind,sbL,sbL,sbL,sb_no (by decide),erL,erL,sbL,sbL] at hv
 obtain ⟨v,l,rfl,hv1,hv2⟩:=hv.cons
 obtain ⟨u,l',rfl,hu1,_⟩:=hv2.cons
 obtain ⟨i,c,c1,c2,c3,c4,c5⟩:=hh.of hv1 (by decide)
 have c6:=c5.parts (.inr rfl)
 have hl:=c6.len
 have e2:simpleR K s.op s.int s.code s.blocks (v :: u :: l') fr h=some (.ok nilV,h.put i { c with parts:=c.parts.set 0 u }):=by
  have e2:simpleR K s.op s.int s.code s.blocks (v :: u :: l') fr h=(h.of v).bind fun kc=>(setI kc.2.parts 0 u).map fun q=>(.ok nilV,h.put kc.1 { kc.2 with parts:=q }):=by unfold simpleR;rw [ho];rfl
  rw [e2,c4,Option.bind_some,setI_ok u (by decide) (by rw [hl];show (0:Int)<1;decide)]
  rfl
 rw [e2]
 refine ⟨_,_,S,rfl,VT.unit h1,⟨List.prefix_refl _,hh.put c3 (.inr (.inl ⟨.inr rfl,c6.set (i:=0) rfl hu1⟩)),Int.le_refl _,?_⟩⟩
 show (h.outs.length:Int)-512*h.ticks≤_
 omega
theorem spend_cases (h:Hp) (fuel n:Int):(h.ticks+n > fuel∧h.spend fuel n=(false,{ h with ticks:=fuel }))∨(h.ticks+n≤fuel∧h.spend fuel n=(true,{ h with ticks:=h.ticks+n })):=by
 unfold Hp.spend
 by_cases hc:h.ticks+n > fuel
 ·rw [if_pos hc]
  exact .inl ⟨hc,rfl⟩
 ·rw [if_neg hc]
  exact .inr ⟨by omega,rfl⟩
theorem SimpT.spent (hP:PgOk p) (hh:HpT p fuel S h) {t:Tp}:SimpT p fuel S h t (some (.error fuelSg,{ h with ticks:=fuel })):=by
 refine ⟨_,_,S,rfl,?_,⟨List.prefix_refl _,hh.like rfl (Int.le_trans hh.t0 hh.t1) (Int.le_refl _),hh.t1,?_⟩⟩
 ·refine ⟨?_,fun _=>rfl⟩
  show (-1:Int)<_
  omega
 ·have:=hh.t1
  show (h.outs.length:Int)-512*fuel≤_
  omega
theorem safe_12 (hP:PgOk p) (hK:K.fuel=fuel) (hh:HpT p fuel S h) (ho:s.op=12) (ht:typedC p s tys=true) (hv:VTs p S vs (sbL θ (erL tys))):SimpT p fuel S h (sb θ (er s.ty)) (simpleR K s.op s.int s.code s.blocks vs fr h):=by
 obtain ⟨h1,t,m,hta,ht2⟩:=typedP_12 ho ht
 obtain ⟨_,h2⟩:=asked_ok ht2
 rw [h2,erL,erL,erL,sbL,sbL,sbL] at hv
 obtain ⟨a,l,rfl,hv1,hv2⟩:=hv.cons
 obtain ⟨u,l',rfl,hu1,_⟩:=hv2.cons
 have e2:simpleR K s.op s.int s.code s.blocks (a :: u :: l') fr h=arrayR K.fuel 12 (a :: u :: l') h:=by unfold simpleR;rw [ho];rfl
 rw [e2,hK]
 unfold arrayR
 rw [if_pos rfl]
 dsimp only
 split
 ·refine .here hh ⟨?_,fun h=>?_⟩
  ·show (2:Int)<_
   have:=hP.exns
   omega
  ·have h:(2:Int)<0:=h
   omega
 ·rename_i hw
  rcases spend_cases h fuel a.word with ⟨_,hs⟩|⟨hs1,hs⟩
  ·rw [hs]
   exact .spent hP hh
  ·rw [hs]
   have hh':HpT p fuel S { h with ticks:=h.ticks+a.word }:=hh.like rfl (by show 0≤h.ticks+a.word;have:=hh.t0;omega) hs1
   rw [er_eq,h1,sb_no (by decide),hta,erL,sbL]
   obtain ⟨x,h',S',q1,q2,q3⟩:=SimpT.new hh' (k:=8) (n:=s.ty.n) (args:=sb θ (er t) :: sbL θ (erL m)) (c:=⟨0,List.replicate a.word.toNat u,none⟩) (by decide) (by decide) (.inr (.inr (.inl ⟨rfl,fun t' ht' v hv=>by
    simp only [List.getElem?_cons_zero,Option.some.injEq] at ht'
    subst ht'
    have hv:v ∈ List.replicate a.word.toNat u:=hv
    rw [(List.mem_replicate.1 hv).2]
    exact hu1⟩)))
   refine ⟨x,h',S',q1,q2,⟨q3.pre,q3.hp,?_,?_⟩⟩
   ·have:h.ticks+a.word≤h'.ticks:=q3.tick
    omega
   ·have:(h'.outs.length:Int)-512*h'.ticks≤h.outs.length-512*(h.ticks+a.word)+1:=q3.outs
    omega
end
end
end Go.Proofs.Ytadffbgbndibpaa
