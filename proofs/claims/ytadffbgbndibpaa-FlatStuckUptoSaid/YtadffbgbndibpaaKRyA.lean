/- PlI, PlJ, RyA: lemmas and walks of the claim. -/
import Derived.Test.YtadffbgbndibpaaKPlH
import Derived.Test.YtadffbgbndibpaaKPlA
set_option linter.unusedSectionVars false
set_option linter.unusedVariables false
set_option linter.unusedSimpArgs false
set_option maxHeartbeats 16000000
set_option maxRecDepth 100000
namespace Go.Proofs.Ytadffbgbndibpaa
section
open Go Go.RowKit
structure KGrow (K:Ctx):Prop where
 fn:∀ i vs h a h',K.fn i vs h=some (a,h')→h.outs <+: h'.outs
 cl:∀ b fr h a h',K.cl b fr h=some (a,h')→h.outs <+: h'.outs
def MonoC (f1:Int) (a:Ans) (h':Hp) (r:Option (Ans × Hp)):Prop:=r=some (a,h')∨(a= .error fuelSg∧h'.ticks=f1∧∀ a2 h2,r=some (a2,h2)→h'.outs <+: h2.outs)
def MonoR (f1:Int) (a:Ans) (fr':Fr) (h':Hp) (r:Option (Ans × Fr × Hp)):Prop:=r=some (a,fr',h')∨(a= .error fuelSg∧h'.ticks=f1∧∀ a2 fr2 h2,r=some (a2,fr2,h2)→h'.outs <+: h2.outs)
structure KMono (f1 f2:Int) (K1 K2:Ctx):Prop where
 f1E:K1.fuel=f1
 f2E:K2.fuel=f2
 le:f1≤f2
 grow:KGrow K2
 fn:∀ i vs h a h',K1.fn i vs h=some (a,h')→MonoC f1 a h' (K2.fn i vs h)
 cl:∀ b fr h a h',K1.cl b fr h=some (a,h')→MonoC f1 a h' (K2.cl b fr h)
def callT (K:Ctx) (op code:Int) (vs:List Vl) (h:Hp):Option (Ans × Hp) :=
 if op=6 then K.fn code vs h
 else match vs with
  |a :: b :: _=>(h.of a).bind fun kc=>match kc.2.block with
   |some bk=>(match bk.bind with|x :: _=>(setI kc.2.parts x b).bind fun vars=>K.cl bk vars h|[]=>none)
   |none=>none
  |_=>none
theorem callR_true {K:Ctx} {op code:Int} {vs:List Vl} {h:Hp} (hs:h.spend K.fuel 1=(true,{ h with ticks:=h.ticks+1 })):callR K op code vs h=callT K op code vs { h with ticks:=h.ticks+1 }:=by
 unfold callR
 rw [hs]
 rfl
theorem callT_some {K:Ctx} {op code:Int} {vs:List Vl} {h:Hp} {r:Ans × Hp} (e:callT K op code vs h=some r) :
 (K.fn code vs h=some r∧∀ K':Ctx,callT K' op code vs h=K'.fn code vs h)∨∃ bk fr,K.cl bk fr h=some r∧∀ K':Ctx,callT K' op code vs h=K'.cl bk fr h:=by
 unfold callT at e ⊢
 split at e
 ·rename_i ho
  exact .inl ⟨e,fun K'=>by rw [if_pos ho]⟩
 ·rename_i ho
  refine .inr ?_
  split at e
  ·rename_i a b l
   obtain ⟨kc,h1,h2⟩:=Option.bind_eq_some_iff.1 e
   split at h2
   ·rename_i bk hbk
    split at h2
    ·rename_i x m hx
     obtain ⟨vars,h3,h4⟩:=Option.bind_eq_some_iff.1 h2
     refine ⟨bk,vars,h4,fun K'=>?_⟩
     rw [if_neg ho]
     try dsimp only
     rw [h1,Option.bind_some,hbk]
     try dsimp only
     rw [hx]
     try dsimp only
     rw [h3,Option.bind_some]
    ·cases h2
   ·cases h2
  ·cases e
section
variable {K:Ctx} (hK:KGrow K) {op code:Int} {vs:List Vl} {h h':Hp} {a:Ans}
include K hK op code vs h h' a
theorem callT_grow (e:callT K op code vs h=some (a,h')):h.outs <+: h'.outs:=by
 rcases callT_some e with ⟨h1,_⟩|⟨bk,fr,h1,_⟩
 ·exact hK.fn _ _ _ _ _ h1
 ·exact hK.cl _ _ _ _ _ h1
theorem callR_grow (e:callR K op code vs h=some (a,h')):h.outs <+: h'.outs:=by
 rcases spend_cases h K.fuel 1 with ⟨_,hs⟩|⟨_,hs⟩
 ·rw [callR_spent rfl hs] at e
  cases e
  exact List.prefix_refl _
 ·rw [callR_true hs] at e
  have q:=callT_grow hK e
  exact q
end
theorem arrayR_grow {fuel op:Int} {vs:List Vl} {h h':Hp} {a:Ans} (e:arrayR fuel op vs h=some (a,h')):h.outs <+: h'.outs:=by
 unfold arrayR at e
 split at e
 ·split at e
  ·rename_i x v l
   split at e
   ·cases e
    exact List.prefix_refl _
   ·rcases spend_cases h fuel x.word with ⟨_,hs⟩|⟨_,hs⟩
    ·rw [hs] at e
     cases e
     exact List.prefix_refl _
    ·rw [hs] at e
     cases e
     exact List.prefix_refl _
  ·cases e
 ·split at e
  ·obtain ⟨kc,h1,h2⟩:=Option.bind_eq_some_iff.1 e
   split at h2
   ·cases h2
    exact List.prefix_refl _
   ·split at h2
    ·split at h2
     ·cases h2
      exact List.prefix_refl _
     ·split at h2
      ·obtain ⟨v,_,h3⟩:=Option.map_eq_some_iff.1 h2
       cases h3
       exact List.prefix_refl _
      ·split at h2
       ·obtain ⟨v,_,h3⟩:=Option.map_eq_some_iff.1 h2
        cases h3
        exact List.prefix_refl _
       ·cases h2
    ·cases h2
  ·cases e
theorem ite_two {α:Type} {c:Prop} [Decidable c] {x y z:α} (h:(if c then x else y)=z):(c∧x=z)∨(¬c∧y=z):=by
 split at h
 ·exact .inl ⟨by assumption,h⟩
 ·exact .inr ⟨by assumption,h⟩
theorem simple_grow {K:Ctx} (hK:KGrow K) {op int code:Int} {blocks:List Bk} {vs:List Vl} {fr:Fr} {h h':Hp} {a:Ans} (e:simpleR K op int code blocks vs fr h=some (a,h')):h.outs <+: h'.outs:=by
 unfold simpleR at e
 rcases ite_two e with ⟨_,e⟩|⟨_,e⟩
 ·cases e;exact List.prefix_refl _
 rcases ite_two e with ⟨_,e⟩|⟨_,e⟩
 ·cases e;exact List.prefix_refl _
 rcases ite_two e with ⟨_,e⟩|⟨_,e⟩
 ·rcases ite_two e with ⟨_,e⟩|⟨_,e⟩
  ·cases e;exact List.prefix_refl _
  ·cases e;exact List.prefix_refl _
 rcases ite_two e with ⟨_,e⟩|⟨_,e⟩
 ·cases e;exact List.prefix_refl _
 rcases ite_two e with ⟨_,e⟩|⟨_,e⟩
 ·split at e
  ·obtain ⟨kc,h1,h2⟩:=Option.bind_eq_some_iff.1 e
   obtain ⟨v,_,h3⟩:=Option.map_eq_some_iff.1 h2
   cases h3;exact List.prefix_refl _
  ·cases e
 rcases ite_two e with ⟨_,e⟩|⟨_,e⟩
 ·split at e
  ·obtain ⟨kc,h1,h2⟩:=Option.bind_eq_some_iff.1 e
   obtain ⟨v,_,h3⟩:=Option.map_eq_some_iff.1 h2
   cases h3;exact List.prefix_refl _
  ·cases e
 rcases ite_two e with ⟨_,e⟩|⟨_,e⟩
 ·split at e
  ·obtain ⟨kc,h1,h2⟩:=Option.bind_eq_some_iff.1 e
   obtain ⟨v,_,h3⟩:=Option.map_eq_some_iff.1 h2
   cases h3;exact List.prefix_refl _
  ·cases e
 rcases ite_two e with ⟨_,e⟩|⟨_,e⟩
 ·split at e
  ·rcases ite_two e with ⟨_,e⟩|⟨_,e⟩
   ·cases e
   ·cases e;exact List.prefix_refl _
  ·cases e
 rcases ite_two e with ⟨_,e⟩|⟨_,e⟩
 ·exact callR_grow hK e
 rcases ite_two e with ⟨_,e⟩|⟨_,e⟩
 ·exact arrayR_grow e
 rcases ite_two e with ⟨_,e⟩|⟨_,e⟩
 ·split at e
  ·cases e;exact List.prefix_refl _
  ·cases e
 rcases ite_two e with ⟨_,e⟩|⟨_,e⟩
 ·split at e
  ·rcases ite_two e with ⟨_,e⟩|⟨_,e⟩
   ·cases e;exact ⟨_,rfl⟩
   ·cases e
  ·cases e
 rcases ite_two e with ⟨_,e⟩|⟨_,e⟩
 ·split at e
  ·cases e;exact List.prefix_refl _
  ·cases e
 cases e
section
variable {f1 f2:Int} {K1 K2:Ctx}
theorem callR_mono (hM:KMono f1 f2 K1 K2) {op code:Int} {vs:List Vl} {h h':Hp} {a:Ans} (e:callR K1 op code vs h=some (a,h')):MonoC f1 a h' (callR K2 op code vs h):=by
 rcases spend_cases h K1.fuel 1 with ⟨_,hs⟩|⟨h1,hs⟩
 ·rw [callR_spent rfl hs] at e
  cases e
  exact .inr ⟨rfl,hM.f1E,fun a2 h2 e2=>(by have q:=callR_grow hM.grow e2;exact q)⟩
 ·rw [callR_true hs] at e
  rcases spend_cases h K2.fuel 1 with ⟨h2,_⟩|⟨_,hs2⟩
  ·rw [hM.f1E] at h1
   rw [hM.f2E] at h2
   have:=hM.le
   omega
  ·rw [callR_true hs2]
   rcases callT_some e with ⟨q1,q2⟩|⟨bk,fr,q1,q2⟩
   ·rw [q2 K2]
    exact hM.fn _ _ _ _ _ q1
   ·rw [q2 K2]
    exact hM.cl _ _ _ _ _ q1
theorem arrayR_mono {fa fb:Int} (hle:fa≤fb) {op:Int} {vs:List Vl} {h h':Hp} {a:Ans} (e:arrayR fa op vs h=some (a,h')):MonoC fa a h' (arrayR fb op vs h):=by
 by_cases ho:op=12
 ·have e':=e
  unfold arrayR at e
  rw [if_pos ho] at e
  split at e
  ·rename_i x v l
   split at e
   ·rename_i hw
    refine .inl ?_
    unfold arrayR
    rw [if_pos ho]
    dsimp only
    rw [if_pos hw]
    exact e
   ·rename_i hw
    rcases spend_cases h fa x.word with ⟨_,hs⟩|⟨h1,hs⟩
    ·rw [hs] at e
     cases e
     exact .inr ⟨rfl,rfl,fun a2 h2 e2=>(by have q:=arrayR_grow e2;exact q)⟩
    ·rcases spend_cases h fb x.word with ⟨h2,_⟩|⟨_,hs2⟩
     ·omega
     ·refine .inl ?_
      unfold arrayR
      rw [if_pos ho]
      dsimp only
      rw [if_neg hw,hs2]
      rw [hs] at e
      exact e
  ·cases e
 ·refine .inl ?_
  rw [←e]
  unfold arrayR
  rw [if_neg ho,if_neg ho]
theorem simple_mono (hM:KMono f1 f2 K1 K2) {op int code:Int} {blocks:List Bk} {vs:List Vl} {fr:Fr} {h h':Hp} {a:Ans} (e:simpleR K1 op int code blocks vs fr h=some (a,h')):MonoC f1 a h' (simpleR K2 op int code blocks vs fr h):=by
 by_cases h68:op=6∨op=8
 ·have e2:∀ K:Ctx,simpleR K op int code blocks vs fr h=callR K op code vs h:=fun K=>by
   rcases h68 with rfl|rfl <;> rfl
  rw [e2] at e ⊢
  exact callR_mono hM e
 ·by_cases h12:op=12∨op=13∨op=14∨op=15
  ·have e2:∀ K:Ctx,simpleR K op int code blocks vs fr h=arrayR K.fuel op vs h:=fun K=>by
    rcases h12 with rfl|rfl|rfl|rfl <;> rfl
   rw [e2] at e ⊢
   rw [hM.f1E] at e
   rw [hM.f2E]
   exact arrayR_mono hM.le e
  ·refine .inl ?_
   rw [←e]
   unfold simpleR
   simp only [if_neg h68,if_neg h12]
def BlkGrow (K:Ctx) (b:Bk):Prop:=∀ fr h a fr' h',blkR K b fr h=some (a,fr',h')→h.outs <+: h'.outs
def BlkMono (f1:Int) (K1 K2:Ctx) (b:Bk):Prop:=∀ fr h a fr' h',blkR K1 b fr h=some (a,fr',h')→MonoR f1 a fr' h' (blkR K2 b fr h)
theorem nthR_some {K:Ctx} {pre:Bk→Fr→Option Fr} {fr:Fr} {h:Hp} {r:Ans × Fr × Hp}:∀ {l:List Bk} {i:Int},nthR K l i pre fr h=some r→∃ b,b ∈ l∧∃ fr1,blkR K b fr1 h=some r∧∀ K':Ctx,nthR K' l i pre fr h=blkR K' b fr1 h
 |[],i,e=>by rw [nthR] at e;cases e
 |a :: l,i,e=>by
  rw [nthR] at e
  split at e
  ·rename_i hi
   obtain ⟨fr1,h1,h2⟩:=Option.bind_eq_some_iff.1 e
   refine ⟨a,List.mem_cons_self,fr1,h2,fun K'=>?_⟩
   rw [nthR,if_pos hi,h1,Option.bind_some]
  ·rename_i hi
   obtain ⟨b,hb,fr1,h1,h2⟩:=nthR_some e
   refine ⟨b,List.mem_cons_of_mem _ hb,fr1,h1,fun K'=>?_⟩
   rw [nthR,if_neg hi]
   exact h2 K'
theorem armsR_some {K:Ctx} {sg:Sg} {fr:Fr} {h:Hp} {r:Ans × Fr × Hp}:∀ {n:Nat} {l:List Bk},armsR K n sg l fr h=some r→(r=(.error sg,fr,h)∧∀ K':Ctx,armsR K' n sg l fr h=some (.error sg,fr,h))∨∃ b,b ∈ l∧∃ fr1,blkR K b fr1 h=some r∧∀ K':Ctx,armsR K' n sg l fr h=blkR K' b fr1 h
 |n,[],e=>by
  rw [armsR] at e
  cases e
  exact .inl ⟨rfl,fun K'=>by rw [armsR]⟩
 |0,a :: l,e=>by
  rw [armsR] at e
  split at e
  ·rename_i hc
   obtain ⟨fr1,h1,h2⟩:=Option.bind_eq_some_iff.1 e
   refine .inr ⟨a,List.mem_cons_self,fr1,h2,fun K'=>?_⟩
   rw [armsR,if_pos hc,h1,Option.bind_some]
  ·rename_i hc
   rcases armsR_some e with ⟨h1,h2⟩|⟨b,hb,fr1,h1,h2⟩
   ·exact .inl ⟨h1,fun K'=>by rw [armsR,if_neg hc];exact h2 K'⟩
   ·exact .inr ⟨b,List.mem_cons_of_mem _ hb,fr1,h1,fun K'=>by rw [armsR,if_neg hc];exact h2 K'⟩
 |n+1,a :: l,e=>by
  rw [armsR] at e
  rcases armsR_some e with ⟨h1,h2⟩|⟨b,hb,fr1,h1,h2⟩
  ·exact .inl ⟨h1,fun K'=>by rw [armsR];exact h2 K'⟩
  ·exact .inr ⟨b,List.mem_cons_of_mem _ hb,fr1,h1,fun K'=>by rw [armsR];exact h2 K'⟩
theorem handE_grow {K:Ctx} {s:St} (hB:∀ b,b ∈ s.blocks→BlkGrow K b) {fr fr':Fr} {h h':Hp} {a a':Ans} (e:handE K s fr h a=some (a',fr',h')):h.outs <+: h'.outs:=by
 cases a with
 |ok v =>
  have e:nthR K s.blocks 1 (bind0 v) fr h=some (a',fr',h'):=e
  obtain ⟨b,hb,fr1,h1,_⟩:=nthR_some e
  exact hB b hb _ _ _ _ _ h1
 |error sg =>
  have e:(if sg.code<0 then some (.error sg,fr,h) else armsR K 2 sg s.blocks fr h)=some (a',fr',h'):=e
  split at e
  ·cases e;exact List.prefix_refl _
  ·rcases armsR_some e with ⟨h1,_⟩|⟨b,hb,fr1,h1,_⟩
   ·cases h1;exact List.prefix_refl _
   ·exact hB b hb _ _ _ _ _ h1
section
variable {K:Ctx} (hK:KGrow K) {s:St} (hB:∀ b,b ∈ s.blocks→BlkGrow K b) {fr fr':Fr} {h h':Hp}
include K hK s hB fr fr' h h'
theorem stE_grow {vs:List Vl} {a:Ans} (e:stE K s fr h vs=some (a,fr',h')):h.outs <+: h'.outs:=by
 have e0:=e
 unfold stE at e
 split at e
 ·split at e
  ·obtain ⟨b,hb,fr1,h1,_⟩:=nthR_some e
   exact hB b hb _ _ _ _ _ h1
  ·cases e
 split at e
 ·split at e
  ·split at e
   ·obtain ⟨b,hb,fr1,h1,_⟩:=nthR_some e
    exact hB b hb _ _ _ _ _ h1
   ·split at e
    ·obtain ⟨b,hb,fr1,h1,_⟩:=nthR_some e
     exact hB b hb _ _ _ _ _ h1
    ·cases e
  ·cases e
 split at e
 ·rename_i ho
  obtain ⟨⟨a1,fr1,h1⟩,q1,_⟩:=Option.bind_eq_some_iff.1 e
  rw [stE_handle ho q1] at e0
  obtain ⟨b,hb,fr2,q2,_⟩:=nthR_some q1
  exact (hB b hb _ _ _ _ _ q2).trans (handE_grow hB e0)
 ·obtain ⟨⟨a1,h1⟩,q1,q2⟩:=Option.map_eq_some_iff.1 e
  cases q2
  exact simple_grow hK q1
theorem stR_grow {a:Ans} (e:stR K s fr h=some (a,fr',h')):h.outs <+: h'.outs:=by
 rw [stE_eq] at e
 obtain ⟨vs,_,h2⟩:=Option.bind_eq_some_iff.1 e
 exact stE_grow hK hB h2
end
theorem stsR_cons_some {K:Ctx} {s:St} {l:List St} {fr:Fr} {h:Hp} {r:Option Sg × Fr × Hp} (e:stsR K (s :: l) fr h=some r):∃ a fr1 h1,stR K s fr h=some (a,fr1,h1)∧contE K s l fr1 h1 a=some r:=by
 have e':=e
 rw [stsR] at e'
 obtain ⟨⟨a,fr1,h1⟩,q1,_⟩:=Option.bind_eq_some_iff.1 e'
 rw [stsR_step q1] at e
 exact ⟨a,fr1,h1,q1,e⟩
theorem stsR_grow {K:Ctx} (hK:KGrow K):∀ {l:List St},(∀ s,s ∈ l→∀ b,b ∈ s.blocks→BlkGrow K b)→∀ {fr fr':Fr} {h h':Hp} {o:Option Sg},stsR K l fr h=some (o,fr',h')→h.outs <+: h'.outs
 |[],_,fr,fr',h,h',o,e=>by
  rw [stsR] at e
  cases e
  exact List.prefix_refl _
 |s :: l,hB,fr,fr',h,h',o,e=>by
  obtain ⟨a,fr1,h1,q1,q2⟩:=stsR_cons_some e
  refine (stR_grow hK (hB s List.mem_cons_self) q1).trans ?_
  cases a with
  |error sg =>
   cases q2
   exact List.prefix_refl _
  |ok v =>
   obtain ⟨fr2,_,q4⟩:=Option.bind_eq_some_iff.1 (show (setI fr1 s.out v).bind (fun fr=>stsR K l fr h1)=_ from q2)
   exact stsR_grow hK (fun s hs=>hB s (List.mem_cons_of_mem _ hs)) q4
theorem blkR_some {K:Ctx} {b:Bk} {fr:Fr} {h:Hp} {r:Ans × Fr × Hp} (e:blkR K b fr h=some r):∃ o fr' h',stsR K b.steps fr h=some (o,fr',h')∧r.2=(fr',h')∧((∃ sg,o=some sg∧r.1= .error sg)∨(o=none∧∃ v,atI fr' b.value=some v∧r.1= .ok v)):=by
 rw [blkR_eq] at e
 obtain ⟨⟨o,fr',h'⟩,q1,q2⟩:=Option.bind_eq_some_iff.1 e
 refine ⟨o,fr',h',q1,?_⟩
 cases o with
 |some sg =>
  cases q2
  exact ⟨rfl, .inl ⟨sg,rfl,rfl⟩⟩
 |none =>
  obtain ⟨v,q3,q4⟩:=Option.map_eq_some_iff.1 (show (atI fr' b.value).map (fun x=>(Except.ok x,fr',h'))=some r from q2)
  subst q4
  exact ⟨rfl, .inr ⟨rfl,v,q3,rfl⟩⟩
theorem blk_grow_n {K:Ctx} (hK:KGrow K):∀ (n:Nat) (b:Bk),szB b≤n→BlkGrow K b
 |0,b,h=>by rw [szB_eq] at h;omega
 |n+1,b,hn=>by
  intro fr h a fr' h' e
  obtain ⟨o,fr1,h1,q1,q2,_⟩:=blkR_some e
  cases q2
  exact stsR_grow hK (fun s hs c hc=>blk_grow_n hK n c (by have:=szB_inner hs hc;omega)) q1
theorem blk_grow {K:Ctx} (hK:KGrow K) (b:Bk):BlkGrow K b:=blk_grow_n hK (szB b) b (Nat.le_refl _)
theorem kgrow (p:Pg) (fuel:Int):∀ g:Nat,KGrow (fnR p fuel g)
 |0=>⟨fun i vs h a h' e=>(by have e:(none:Option (Ans × Hp))=some (a,h'):=e;cases e),fun b fr h a h' e=>(by have e:(none:Option (Ans × Hp))=some (a,h'):=e;cases e)⟩
 |g+1=>by
  refine ⟨fun i vs h a h' e=>?_,fun b fr h a h' e=>?_⟩
  ·simp only [fnR,Option.bind_eq_some_iff] at e
   obtain ⟨f,_,h2⟩:=e
   split at h2
   ·cases h2
   ·obtain ⟨⟨ra,rf,rh⟩,h4,h5⟩:=Option.map_eq_some_iff.1 h2
    cases h5
    exact blk_grow (kgrow p fuel g) _ _ _ _ _ _ h4
  ·simp only [fnR] at e
   obtain ⟨⟨ra,rf,rh⟩,h4,h5⟩:=Option.map_eq_some_iff.1 e
   cases h5
   exact blk_grow (kgrow p fuel g) _ _ _ _ _ _ h4
end
end
section
open Go Go.RowKit
section
variable {f1 f2:Int} {K1 K2:Ctx}
theorem MonoR.of {a:Ans} {fr':Fr} {h':Hp} {r r':Option (Ans × Fr × Hp)} (h:MonoR f1 a fr' h' r) (e:r'=r):MonoR f1 a fr' h' r':=by rw [e];exact h
theorem handE_mono {s:St} (hB:∀ b,b ∈ s.blocks→BlkMono f1 K1 K2 b) {fr fr':Fr} {h h':Hp} {a a':Ans} (e:handE K1 s fr h a=some (a',fr',h')):MonoR f1 a' fr' h' (handE K2 s fr h a):=by
 cases a with
 |ok v =>
  have e:nthR K1 s.blocks 1 (bind0 v) fr h=some (a',fr',h'):=e
  obtain ⟨b,hb,fr1,h1,h2⟩:=nthR_some e
  exact (hB b hb _ _ _ _ _ h1).of (h2 K2)
 |error sg =>
  have e:(if sg.code<0 then some (.error sg,fr,h) else armsR K1 2 sg s.blocks fr h)=some (a',fr',h'):=e
  rcases ite_two e with ⟨hc,e⟩|⟨hc,e⟩
  ·exact .inl (by show (if sg.code<0 then _ else _)=_;rw [if_pos hc,e])
  ·have e2:handE K2 s fr h (.error sg)=armsR K2 2 sg s.blocks fr h:=by show (if sg.code<0 then _ else _)=_;rw [if_neg hc]
   rcases armsR_some e with ⟨h1,h2⟩|⟨b,hb,fr1,h1,h2⟩
   ·exact .inl (by rw [e2,h2 K2,h1])
   ·exact (hB b hb _ _ _ _ _ h1).of (e2.trans (h2 K2))
section
variable (hM:KMono f1 f2 K1 K2) {s:St} (hB:∀ b,b ∈ s.blocks→BlkMono f1 K1 K2 b) {fr fr':Fr} {h h':Hp}
include hM s hB fr fr' h h'
theorem stE_mono {vs:List Vl} {a:Ans} (e:stE K1 s fr h vs=some (a,fr',h')):MonoR f1 a fr' h' (stE K2 s fr h vs):=by
 have e0:=e
 unfold stE at e
 rcases ite_two e with ⟨ho,e⟩|⟨h26,e⟩
 ·split at e
  ·obtain ⟨b,hb,fr1,h1,h2⟩:=nthR_some e
   refine (hB b hb _ _ _ _ _ h1).of ?_
   unfold stE
   rw [if_pos ho]
   exact h2 K2
  ·cases e
 rcases ite_two e with ⟨ho,e⟩|⟨h27,e⟩
 ·split at e
  ·rename_i x l
   split at e
   ·rename_i hx
    obtain ⟨b,hb,fr1,h1,h2⟩:=nthR_some e
    refine (hB b hb _ _ _ _ _ h1).of ?_
    unfold stE
    rw [if_neg h26,if_pos ho]
    dsimp only
    rw [hx]
    exact h2 K2
   ·rename_i k hx
    split at e
    ·rename_i c hc
     obtain ⟨b,hb,fr1,h1,h2⟩:=nthR_some e
     refine (hB b hb _ _ _ _ _ h1).of ?_
     unfold stE
     rw [if_neg h26,if_pos ho]
     dsimp only
     rw [hx]
     dsimp only
     rw [hc]
     exact h2 K2
    ·cases e
  ·cases e
 rcases ite_two e with ⟨ho,e⟩|⟨h17,e⟩
 ·obtain ⟨⟨a1,fr1,h1⟩,q1,_⟩:=Option.bind_eq_some_iff.1 e
  rw [stE_handle ho q1] at e0
  obtain ⟨b,hb,fr2,q2,q3⟩:=nthR_some q1
  rcases hB b hb _ _ _ _ _ q2 with q4|⟨q4,q5,q6⟩
  ·rw [stE_handle ho ((q3 K2).trans q4)]
   exact handE_mono hB e0
  ·subst q4
   have e1:some ((.error fuelSg:Ans),fr1,h1)=some (a,fr',h'):=e0
   cases e1
   refine .inr ⟨rfl,q5,fun a2 fr2' h2 e2=>?_⟩
   have e3:=e2
   unfold stE at e3
   rw [if_neg h26,if_neg h27,if_pos ho] at e3
   obtain ⟨⟨a3,fr3,h3⟩,r1,_⟩:=Option.bind_eq_some_iff.1 e3
   rw [stE_handle ho r1] at e2
   rw [q3 K2] at r1
   exact (q6 _ _ _ r1).trans (handE_grow (fun b _=>blk_grow hM.grow b) e2)
 ·obtain ⟨⟨a1,h1⟩,q1,q2⟩:=Option.map_eq_some_iff.1 e
  cases q2
  have e2:stE K2 s fr h vs=(simpleR K2 s.op s.int s.code s.blocks vs fr h).map fun r=>(r.1,fr,r.2):=by
   unfold stE
   rw [if_neg h26,if_neg h27,if_neg h17]
  rcases simple_mono hM q1 with q3|⟨q3,q4,q5⟩
  ·exact .inl (by rw [e2,q3];rfl)
  ·refine .inr ⟨q3,q4,fun a2 fr2 h2 e3=>?_⟩
   rw [e2] at e3
   obtain ⟨⟨a4,h4⟩,r1,r2⟩:=Option.map_eq_some_iff.1 e3
   cases r2
   exact q5 _ _ r1
theorem stR_mono {a:Ans} (e:stR K1 s fr h=some (a,fr',h')):MonoR f1 a fr' h' (stR K2 s fr h):=by
 rw [stE_eq] at e
 obtain ⟨vs,h1,h2⟩:=Option.bind_eq_some_iff.1 e
 exact (stE_mono hM hB h2).of (by rw [stE_eq,h1,Option.bind_some])
end
theorem stsR_mono (hM:KMono f1 f2 K1 K2):∀ {l:List St},(∀ s,s ∈ l→∀ b,b ∈ s.blocks→BlkMono f1 K1 K2 b)→∀ {fr fr':Fr} {h h':Hp} {o:Option Sg},stsR K1 l fr h=some (o,fr',h') →
 stsR K2 l fr h=some (o,fr',h')∨(o=some fuelSg∧h'.ticks=f1∧∀ o2 fr2 h2,stsR K2 l fr h=some (o2,fr2,h2)→h'.outs <+: h2.outs)
 |[],_,fr,fr',h,h',o,e=>by
  rw [stsR] at e
  refine .inl ?_
  rw [stsR]
  exact e
 |s :: l,hB,fr,fr',h,h',o,e=>by
  obtain ⟨a,fr1,h1,q1,q2⟩:=stsR_cons_some e
  rcases stR_mono hM (hB s List.mem_cons_self) q1 with q3|⟨q3,q4,q5⟩
  ·rw [stsR_step q3]
   cases a with
   |error sg =>
    cases q2
    exact .inl rfl
   |ok v =>
    obtain ⟨fr2,r1,r2⟩:=Option.bind_eq_some_iff.1 (show (setI fr1 s.out v).bind (fun fr=>stsR K1 l fr h1)=_ from q2)
    have e2:contE K2 s l fr1 h1 (.ok v)=stsR K2 l fr2 h1:=by
     show (setI fr1 s.out v).bind _=_
     rw [r1,Option.bind_some]
    rw [e2]
    exact stsR_mono hM (fun s hs=>hB s (List.mem_cons_of_mem _ hs)) r2
  ·subst q3
   cases q2
   refine .inr ⟨rfl,q4,fun o2 fr2 h2 e2=>?_⟩
   obtain ⟨a3,fr3,h3,r1,r2⟩:=stsR_cons_some e2
   refine (q5 _ _ _ r1).trans ?_
   cases a3 with
   |error sg =>
    cases r2
    exact List.prefix_refl _
   |ok v =>
    obtain ⟨fr4,_,r4⟩:=Option.bind_eq_some_iff.1 (show (setI fr3 s.out v).bind (fun fr=>stsR K2 l fr h3)=_ from r2)
    exact stsR_grow hM.grow (fun s _ b _=>blk_grow hM.grow b) r4
theorem blk_mono_n (hM:KMono f1 f2 K1 K2):∀ (n:Nat) (b:Bk),szB b≤n→BlkMono f1 K1 K2 b
 |0,b,h=>by rw [szB_eq] at h;omega
 |n+1,b,hn=>by
  intro fr h a fr' h' e
  obtain ⟨o,fr1,h1,q1,q2,q3⟩:=blkR_some e
  cases q2
  rcases stsR_mono hM (fun s hs c hc=>blk_mono_n hM n c (by have:=szB_inner hs hc;omega)) q1 with q4|⟨q4,q5,q6⟩
  ·refine .inl ?_
   rw [blkR_eq] at e ⊢
   rw [q1,Option.bind_some] at e
   rw [q4,Option.bind_some]
   exact e
  ·rcases q3 with ⟨sg,r1,r2⟩|⟨r1,_⟩
   ·rw [q4] at r1
    cases r1
    refine .inr ⟨r2,q5,fun a2 fr2 h2 e2=>?_⟩
    obtain ⟨o3,fr3,h3,s1,s2,_⟩:=blkR_some e2
    cases s2
    exact q6 _ _ _ s1
   ·rw [q4] at r1
    cases r1
theorem blk_mono (hM:KMono f1 f2 K1 K2) (b:Bk):BlkMono f1 K1 K2 b:=blk_mono_n hM (szB b) b (Nat.le_refl _)
end
theorem map_mono {f1:Int} {r1 r2:Option (Ans × Fr × Hp)} {a:Ans} {h':Hp} (hm:∀ a fr' h',r1=some (a,fr',h')→MonoR f1 a fr' h' r2) (e:r1.map (fun r=>(r.1,r.2.2))=some (a,h')):MonoC f1 a h' (r2.map fun r=>(r.1,r.2.2)):=by
 obtain ⟨⟨ra,rf,rh⟩,h4,h5⟩:=Option.map_eq_some_iff.1 e
 cases h5
 rcases hm _ _ _ h4 with q|⟨q1,q2,q3⟩
 ·exact .inl (by rw [q];rfl)
 ·refine .inr ⟨q1,q2,fun a2 h2 e2=>?_⟩
  obtain ⟨⟨ra2,rf2,rh2⟩,r1,r2⟩:=Option.map_eq_some_iff.1 e2
  cases r2
  exact q3 _ _ _ r1
theorem kmono (p:Pg) {f1 f2:Int} (hle:f1≤f2):∀ g1 g2:Nat,g1≤g2→KMono f1 f2 (fnR p f1 g1) (fnR p f2 g2)
 |0,0,_=>⟨rfl,rfl,hle,kgrow p f2 0,fun i vs h a h' e=>(by have e:(none:Option (Ans × Hp))=some (a,h'):=e;cases e),fun b fr h a h' e=>(by have e:(none:Option (Ans × Hp))=some (a,h'):=e;cases e)⟩
 |0,g2+1,_=>⟨rfl,rfl,hle,kgrow p f2 (g2+1),fun i vs h a h' e=>(by have e:(none:Option (Ans × Hp))=some (a,h'):=e;cases e),fun b fr h a h' e=>(by have e:(none:Option (Ans × Hp))=some (a,h'):=e;cases e)⟩
 |g1+1,0,h=>by omega
 |g1+1,g2+1,hg=>by
  have ih:=kmono p hle g1 g2 (by omega)
  refine ⟨rfl,rfl,hle,kgrow p f2 (g2+1),fun i vs h a h' e=>?_,fun b fr h a h' e=>?_⟩
  ·simp only [fnR,Option.bind_eq_some_iff] at e
   obtain ⟨f,k1,k2⟩:=e
   rcases ite_two k2 with ⟨_,k2⟩|⟨hs,k2⟩
   ·cases k2
   ·have:=map_mono (fun a fr' h' e=>blk_mono ih f.body _ _ _ _ _ e) k2
    show MonoC f1 a h' ((atI p.funs i).bind fun f=>if sizeF f<0∨1000000<sizeF f then none else (blkR (fnR p f2 g2) f.body ((vs++List.replicate ((sizeF f).toNat-vs.length) nilV).take (sizeF f).toNat) h).map fun r=>(r.1,r.2.2))
    rw [k1,Option.bind_some,if_neg hs]
    exact this
  ·simp only [fnR] at e
   exact map_mono (fun a fr' h' e=>blk_mono ih b _ _ _ _ _ e) e
def endR (p:Pg) (r:Ans × Hp):Option RunOut:=match r.1 with
 |.ok v=>some ⟨v.word,r.2.outs,0,⟨#[]⟩,0,r.2.ticks⟩
 |.error g=>if g.code<0 then some ⟨0,r.2.outs,2,⟨#[]⟩,0,r.2.ticks⟩ else (atI p.exns g.code).map fun n=>⟨0,r.2.outs,1,n,g.payload,r.2.ticks⟩
def fuelN (fuel:Int):Int:=min (max fuel 0) 8192
section
variable {p:Pg} (h:validP p=0)
include p h
theorem runP_valid (ag:List Int) (fuel:Int) {i:Nat} {f:Fu} (hi:p.main=i) (hf:p.funs[i]? =some f) :
 runP p ag fuel=if ag.length≠f.params.length then some ⟨0,[],3,⟨#[]⟩,0,0⟩ else ((fnR p (fuelN fuel) ((fuelN fuel).toNat+2)).fn p.main (ag.map wd) ⟨[],0,[]⟩).bind (endR p):=by
 unfold runP
 rw [if_neg (by rw [h];simp),atI_ok hi hf,Option.bind_some]
 rfl
theorem main_of:∃ (i:Nat) (f:Fu),p.main=i∧p.funs[i]? =some f:=by
 obtain ⟨_,_,_,i,f,h1,h2,_⟩:=headsOk_parts (validP_zero h).1
 exact ⟨i,f,h1,h2⟩
section
variable (hs:∀ f,f ∈ p.funs→szB f.body≤512) (ag:List Int)
include hs ag
section
variable (fuel:Int) {i:Nat} {f:Fu} (hi:p.main=i) (hf:p.funs[i]? =some f)
include fuel i f hi hf
theorem run_cases (hag:ag.length=f.params.length) :
 ∃ a h' r,(fnR p (fuelN fuel) ((fuelN fuel).toNat+2)).fn p.main (ag.map wd) ⟨[],0,[]⟩=some (a,h')∧runP p ag fuel=some r∧endR p (a,h')=some r∧r.outs=h'.outs∧r.ticks=h'.ticks∧h'.ticks≤fuelN fuel∧(r.fault=0∨r.fault=1∨r.fault=2)∧(r.fault=2→h'.ticks=fuelN fuel)∧(a= .error fuelSg→r.fault=2):=by
 obtain ⟨a,h',q1,q2,q3⟩:=run_safe h hs ag (fuelN fuel) (by unfold fuelN;omega) (by unfold fuelN;omega) i f hi hf hag
 have e:=runP_valid h ag fuel hi hf
 rw [if_neg (by rw [hag];simp),q1,Option.bind_some] at e
 cases a with
 |ok v =>
  refine ⟨.ok v,h',_,q1,e,rfl,rfl,rfl,q2, .inl rfl,fun h=>?_,fun h=>(by cases h)⟩
  have h:(0:Int)=2:=h
  omega
 |error sg =>
  obtain ⟨q4,q5⟩:=q3 sg rfl
  have e2:endR p (.error sg,h')=if sg.code<0 then some ⟨0,h'.outs,2,⟨#[]⟩,0,h'.ticks⟩ else (atI p.exns sg.code).map fun n=>⟨0,h'.outs,1,n,sg.payload,h'.ticks⟩:=rfl
  by_cases hc:sg.code<0
  ·rw [if_pos hc] at e2
   exact ⟨.error sg,h',_,q1,e.trans e2,e2,rfl,rfl,q2, .inr (.inr rfl),fun _=>q5 hc,fun _=>rfl⟩
  ·have hlt:sg.code.toNat<p.exns.length:=by omega
   rw [if_neg hc,atI_ok (i:=sg.code.toNat) (by omega) (List.getElem?_eq_getElem hlt),Option.map_some] at e2
   refine ⟨.error sg,h',_,q1,e.trans e2,e2,rfl,rfl,q2, .inr (.inl rfl),fun h=>?_,fun h=>?_⟩
   ·have h:(1:Int)=2:=h
    omega
   ·cases h
    exact absurd (show (-1:Int)<0 by decide) hc
theorem stuck_law :
 ∃ r,runP p ag fuel=some r∧((r.fault=3∧ag.length≠f.params.length)∨((r.fault=0∨r.fault=1∨r.fault=2)∧ag.length=f.params.length)):=by
 by_cases hag:ag.length=f.params.length
 ·obtain ⟨a,h',r,_,q2,_,_,_,_,q6,_⟩:=run_cases h hs ag fuel hi hf hag
  exact ⟨r,q2, .inr ⟨q6,hag⟩⟩
 ·exact ⟨_,by rw [runP_valid h ag fuel hi hf,if_pos hag], .inl ⟨rfl,hag⟩⟩
end
theorem fuel_law (n m:Int) (h0:0≤n) (hnm:n≤m) (hm:m≤8192) :
 ∃ a b,runP p ag n=some a∧runP p ag m=some b∧((a.fault≠2∧a.ticks≤n∧b=a)∨(a.fault=2∧a.ticks=n∧a.outs <+: b.outs)):=by
 obtain ⟨i,f,hi,hf⟩:=main_of h
 have fn:fuelN n=n:=by unfold fuelN;omega
 have fm:fuelN m=m:=by unfold fuelN;omega
 by_cases hag:ag.length=f.params.length
 ·obtain ⟨a,h1,r,p1,p2,p3,p4,p5,p6,p7,p8,p9⟩:=run_cases h hs ag n hi hf hag
  obtain ⟨b,h2,t,q1,q2,q3,q4,q5,q6,q7,q8,q9⟩:=run_cases h hs ag m hi hf hag
  refine ⟨r,t,p2,q2,?_⟩
  rw [fn] at p1 p6 p8
  rw [fm] at q1
  have hk:=kmono p hnm (n.toNat+2) (m.toNat+2) (by omega)
  rcases hk.fn _ _ _ _ _ p1 with e|⟨e1,e2,e3⟩
  ·rw [q1] at e
   cases e
   rw [p3] at q3
   cases q3
   by_cases hf2:r.fault=2
   ·exact .inr ⟨hf2,by rw [p5];exact p8 hf2,List.prefix_refl _⟩
   ·exact .inl ⟨hf2,by rw [p5];exact p6,rfl⟩
  ·refine .inr ⟨p9 e1,by rw [p5,e2],?_⟩
   rw [p4,q4]
   exact e3 _ _ q1
 ·refine ⟨_,_,by rw [runP_valid h ag n hi hf,if_pos hag],by rw [runP_valid h ag m hi hf,if_pos hag], .inl ⟨?_,h0,rfl⟩⟩
  show (3:Int)≠2
  decide
end
end
end
section
open Go Go.RowKit
def okS (s:St):Prop:=P16 s.out∧∀ c,c ∈ s.blocks→∀ x,x ∈ c.bind→P16 x
mutual
theorem wkB_ok:∀ (b:Bk),varSs P16 b.steps→∀ s,s ∈ wkB b→okS s
 |.mk _ _ steps _,h,s,hs=>by rw [wkB] at hs;exact wkSs_ok steps h s hs
theorem wkSs_ok:∀ (l:List St),varSs P16 l→∀ s,s ∈ wkSs l→okS s
 |[],_,s,hs=>by rw [wkSs] at hs;cases hs
 |a :: l,h,s,hs=>by
  rw [varSs] at h
  rw [wkSs] at hs
  rcases List.mem_append.1 hs with hs|hs
  ·exact wkS_ok a h.1 s hs
  ·exact wkSs_ok l h.2 s hs
theorem wkS_ok:∀ (a:St),varS P16 a→∀ s,s ∈ wkS a→okS s
 |.mk op out ty args int code types effs regs modes region keep blocks,h,s,hs=>by
  rw [wkS] at hs
  rw [varS] at h
  rcases List.mem_cons.1 hs with rfl|hs
  ·refine ⟨h.1,fun c hc x hx=>?_⟩
   have:=varBs_mem h.2 c hc
   rw [varB_eq] at this
   exact this.1 x hx
  ·exact wkBs_ok blocks h.2 s hs
theorem wkBs_ok:∀ (l:List Bk),varBs P16 l→∀ s,s ∈ wkBs l→okS s
 |[],_,s,hs=>by rw [wkBs] at hs;cases hs
 |a :: l,h,s,hs=>by
  rw [varBs] at h
  rw [wkBs] at hs
  rcases List.mem_append.1 hs with hs|hs
  ·have h1:=h.1
   rw [varB_eq] at h1
   exact wkB_ok a h1.2 s hs
  ·exact wkBs_ok l h.2 s hs
end
theorem wrap_P16 {x:Int} (h:P16 x):wrap64 (x+1)=x+1:=by
 obtain ⟨h1,h2⟩:=h
 unfold wrap64
 omega
theorem binW_eq:∀ (l:List Int) (n:Int),(∀ x,x ∈ l→P16 x)→binW n l=l.foldl (fun n x=>max n (x+1)) n
 |[],n,_=>rfl
 |a :: l,n,h=>by
  have ih:=binW_eq l (max n (wrap64 (a+1))) (fun x hx=>h x (List.mem_cons_of_mem _ hx))
  have h1:binW n (a :: l)=binW (max n (wrap64 (a+1))) l:=rfl
  rw [h1,ih,wrap_P16 (h a List.mem_cons_self),List.foldl_cons]
theorem blkW_eq:∀ (l:List Bk) (n:Int),(∀ c,c ∈ l→∀ x,x ∈ c.bind→P16 x)→blkW n l=sizXs n l
 |[],n,_=>by rw [sizXs];rfl
 |.mk code bind ss v :: l,n,h=>by
  have h1:blkW n (.mk code bind ss v :: l)=blkW (binW n bind) l:=rfl
  rw [h1,blkW_eq l _ (fun c hc=>h c (List.mem_cons_of_mem _ hc)),sizXs,binW_eq bind n (h _ List.mem_cons_self)]
theorem stpW_eq {s:St} (h:okS s) (n:Int):stpW n s=sizR n s:=by
 unfold stpW sizR
 rw [blkW_eq _ _ h.2,wrap_P16 h.1]
theorem lisW_eq:∀ (l:List St) (n:Int),(∀ s,s ∈ l→okS s)→lisW n l=l.foldl sizR n
 |[],n,_=>rfl
 |a :: l,n,h=>by
  have h1:lisW n (a :: l)=lisW (stpW n a) l:=rfl
  rw [h1,lisW_eq l _ (fun s hs=>h s (List.mem_cons_of_mem _ hs)),stpW_eq (h a List.mem_cons_self),List.foldl_cons]
theorem size_any (w:World) (ρ:Ghost) (m:Nat) (f:Fu) (cf:List Value) (hf:FuR w ρ m f cf) (hv:varB P16 f.body) :
 Calls Try.prog 15 #[.agg cf.toArray] w fun e w'=>e= .returned (.int .i64 (sizeF f))∧Below w.heap.size w w':=by
 rw [varB_eq] at hv
 have h:=callsIn_wide.1 (size_in Fence.wide rfl trivial trivial trivial trivial rfl 3 (by decide) w ρ m f cf hf)
 have e:lisW f.params.length (wkB f.body)=sizeF f:=by
  rw [lisW_eq _ _ (wkB_ok f.body hv.2)]
  unfold sizeF
  rw [sizB_wk]
 rw [e] at h
 exact h
section
variable {P:Program} {ops:Array Oper} {rest:List Oper} {o:Oper} {a:Act} {w:World} {Q:Exit→Act→World→Prop} (hgd:o.guard=none) (x y:Operand) (t t':TypeId)
include P ops rest o a w Q hgd x y t t'
theorem wpList_max (hop:o.op=Op.call { callee:=Callee.builtin Builtin.max,args:= #[x,y],argTypes:= #[t,t'] }) (p q:Int) (hx:a.eval x= .int .i64 p) (hy:a.eval y= .int .i64 q) (h:wpList P ops Q rest (a.put o.dst (.int .i64 (max p q))) w):wpList P ops Q (o :: rest) a w:=by
 refine wpList_plain hgd fun K hK=>?_
 have hm:(Builtin.max_ #[t,t'] o.type #[.int .i64 p, .int .i64 q]).run P w= .ok (.int .i64 (max p q)) w:=by
  simp [Builtin.max_,Builtin.max2]
  split
  ·rw [Int.max_eq_right (by omega)]
  ·rw [Int.max_eq_left (by omega)]
 unfold Oper.wp execOp
 simp [hop,resolve,invoke,builtin,hx,hy,hm,Result.andThen]
 exact hK _ _ h
theorem wpList_min (hop:o.op=Op.call { callee:=Callee.builtin Builtin.min,args:= #[x,y],argTypes:= #[t,t'] }) (p q:Int) (hx:a.eval x= .int .i64 p) (hy:a.eval y= .int .i64 q) (h:wpList P ops Q rest (a.put o.dst (.int .i64 (min p q))) w):wpList P ops Q (o :: rest) a w:=by
 refine wpList_plain hgd fun K hK=>?_
 have hm:(Builtin.min_ #[t,t'] o.type #[.int .i64 p, .int .i64 q]).run P w= .ok (.int .i64 (min p q)) w:=by
  simp [Builtin.min_,Builtin.min2]
  split
  ·rw [Int.min_eq_right (by omega)]
  ·rw [Int.min_eq_left (by omega)]
 unfold Oper.wp execOp
 simp [hop,resolve,invoke,builtin,hx,hy,hm,Result.andThen]
 exact hK _ _ h
end
theorem Step.reghost {w w':World} {ρ ρ' ρ'':Ghost} (h:Step (fun _=>False) w ρ w' ρ') (h1:∀ k,k<w.heap.size→ρ'' k=ρ k) (h2:Fresh w' ρ''):Step (fun _=>False) w ρ w' ρ'' :=
 ⟨h.os,h.tape,h.output,h.size,h1,h.block,fun _=>h2⟩
def NoT (ρ:Ghost):Prop:=∀ b,ρ b=none
theorem Step.free {T:Tag→Prop} {w w':World} {ρ ρ':Ghost} (h:Step T w ρ w' ρ') (hn:NoT ρ):Step (fun _=>False) w ρ w' ρ' :=
 ⟨h.os,h.tape,h.output,h.size,h.ghost,fun k hk _=>h.block k hk (fun t ht=>by rw [hn k] at ht;cases ht),h.fresh⟩
theorem valid_var {p:Pg} (h:validP p=0) {k:Nat} {f:Fu} (hf:p.funs[k]? =some f):varB P16 f.body∧0≤sizeF f∧sizeF f≤16384:=by
 obtain ⟨c,r,g1,g2,_⟩:=funC_ok (funsC_zero (validP_zero h).2 f (List.mem_of_getElem? hf))
 obtain ⟨k1,k2,_,_,k5⟩:=frame_ok g1 g2
 exact ⟨k5,by omega,k2⟩
theorem FuR.one {w:World} {ρ:Ghost} {n:Nat} {f:Fu} {cs:List Value} (h:FuR w ρ n f cs):cs.toArray.all (·.oneCell')=true:=by
 obtain ⟨e1,e2,vp,va0,r1,r2,vb,vs,rfl,hV⟩:=h.shape
 obtain ⟨_,_,_,_,_,hty,_,_,_,_,hy0,hy1,hy2⟩:=TyR.shape hV.result
 simp only [List.cons.injEq,and_true,true_and] at hty
 obtain ⟨rfl,rfl,rfl⟩:=hty
 obtain ⟨_,_,_,_,hbd,_,_,hy5,hy6⟩:=BkR.shape hV.body
 simp only [List.cons.injEq,and_true,true_and] at hbd
 obtain ⟨rfl,rfl⟩:=hbd
 obtain ⟨a0,k0,rfl,_,_⟩:=SlR.form hV.t1
 obtain ⟨a1,k1,rfl,_,_⟩:=SlR.form hV.t2
 obtain ⟨a2,k2,rfl,_,_⟩:=SlR.form hV.params
 obtain ⟨a3,k3,rfl,_,_⟩:=SlR.form hy0
 obtain ⟨a4,k4,rfl,_,_⟩:=SlR.form hy1
 obtain ⟨a5,k5,rfl,_,_⟩:=SlR.form hy2
 obtain ⟨a6,k6,rfl,_,_⟩:=SlR.form hy5
 obtain ⟨a7,k7,rfl,_,_⟩:=SlR.form hy6
 exact fuCells_one ..
theorem szFs_len:∀ l:List Fu,l.length≤szFs l
 |[]=>by simp
 |f :: l=>by
  have:=szFs_len l
  rw [List.length_cons,szFs]
  have:1≤szF f:=by unfold szF;omega
  omega
end
end Go.Proofs.Ytadffbgbndibpaa
