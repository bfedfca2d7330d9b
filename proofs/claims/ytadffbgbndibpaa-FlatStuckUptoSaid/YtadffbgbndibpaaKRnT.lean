/- RnT: lemmas and walks of the claim. -/
import Derived.Test.YtadffbgbndibpaaKRnP
import Derived.Test.YtadffbgbndibpaaKGaF
set_option linter.unusedSectionVars false
set_option linter.unusedVariables false
set_option linter.unusedSimpArgs false
set_option maxHeartbeats 16000000
set_option maxRecDepth 100000
namespace Go.Proofs.Ytadffbgbndibpaa
open Go Go.RowKit
theorem BlkP.drew {p:Pg} {n N:Nat} {szs:List Int} {fuel:Int} {R:Nat} {w:World} {ρ:Ghost} {B:List Nat} {G gc:Nat} {a:Ans} {fr':Fr} {h':Hp} {e:Ending} {w':World} (h:BlkP p n N szs fuel R w ρ B G gc a fr' h' e w'):BlkP p n N szs fuel R w ρ B G gc a fr' h' e w'.drew:=by
 obtain ⟨ρ',B',x',s',z1,z2,z3,z4,z5,z6⟩:=h
 have hsd:=(Step.refl (fun _=>False) w' ρ').drew
 exact ⟨ρ',B',x',s',z1,z2.step hsd,z3.step hsd (fun _ _ h=>h),z4.step hsd (fun h=>h),z5.drew,z6⟩
theorem ne_tag {ρ:Ghost} {x y:Nat} {t u:Option Tag} (h1:ρ x=t) (h2:ρ y=u) (h:t≠u):¬x=y:=fun e=>h (by rw [←h1, ←h2,e])
theorem collect_drop {fr:Fr} {l:List Int} {ag:List Vl} {k:Nat} {x:Int} (hx:l[k]? =some x) (h:collect fr l=some ag):∃ v,atI fr x=some v∧ag[k]? =some v:=by
 induction l generalizing k ag with
 |nil=>simp at hx
 |cons y l ih =>
  rw [collect,Option.bind_eq_some_iff] at h
  obtain ⟨v,h1,h2⟩:=h
  simp only [Option.map_eq_some_iff] at h2
  obtain ⟨m,h3,h4⟩:=h2
  subst h4
  cases k with
  |zero =>
   simp only [List.getElem?_cons_zero,Option.some.injEq] at hx
   subst hx
   exact ⟨v,h1,rfl⟩
  |succ k =>
   rw [List.getElem?_cons_succ] at hx
   obtain ⟨u,h5,h6⟩:=ih hx h3
   exact ⟨u,h5,by rw [List.getElem?_cons_succ];exact h6⟩
theorem collect_len {fr:Fr}:∀ {l:List Int} {ag:List Vl},collect fr l=some ag→ag.length=l.length
 |[],ag,h=>by rw [collect] at h;cases h;rfl
 |x :: l,ag,h=>by
  rw [collect,Option.bind_eq_some_iff] at h
  obtain ⟨v,_,h2⟩:=h
  simp only [Option.map_eq_some_iff] at h2
  obtain ⟨m,h3,h4⟩:=h2
  subst h4
  rw [List.length_cons,List.length_cons,collect_len h3]
theorem take_flat (B:List Nat) {ag:List Vl} {k:Nat} {v:Vl} (h:ag[k]? =some v):flatV B (ag.take (k+1))=flatV B (ag.take k)++valV B v:=by
 obtain ⟨hlt,he⟩:=List.getElem?_eq_some_iff.1 h
 rw [List.take_succ_eq_append_getElem hlt,flatV_append,he]
 unfold flatV
 simp
theorem RunP.blk {p:Pg} {n N:Nat} {szs:List Int} {fuel:Int} {R:Nat} {w w1:World} {ρ ρ1:Ghost} {B:List Nat} {G gc:Nat} {a:Ans} {fr:Fr} {h':Hp} {e:Ending} {w':World} (hs:Step (RunT G) w ρ w1 ρ1) (hf:FrR w1 ρ1 B G gc fr) (h:RunP p n N szs fuel R w1 ρ1 B RunQ a h' e w'):BlkP p n N szs fuel R w ρ B G gc a fr h' e w':=by
 obtain ⟨ρ',B',x,s,h1,h2,h3,h4,h5⟩:=h
 exact ⟨ρ',B',x,s,h1,h2,h3,(hf.step h4 (fun h=>by rcases h with h|h|h <;> cases h)).app B',hs.trans (h4.mono (fun t h=>Or.inl h)),h5⟩
theorem keepR_of {W wv:World} {ρ:Ghost} {S:Nat} (h:Step (fun _=>False) W ρ wv ρ):∀ a:Addr,a.block<W.heap.size→¬a.block=S→wv.cell? a=W.cell? a :=
 fun a ha _=>World.cell?_of_block (h.block a.block ha (fun _ _ h=>h))
theorem keepQ_of {W wv:World} {ρ ρ':Ghost} {S:Nat} (h:Step (fun _=>False) W ρ wv ρ'):∀ a:Addr,a.block<W.heap.size→¬a.block=S→wv.cell? a=W.cell? a :=
 fun a ha _=>World.cell?_of_block (h.block a.block ha (fun _ _ h=>h))
theorem wp_append_ownS {P:Program} {w:World} {o:Oper} {a:Act} {K:Act→World→Prop} {Q:Exit→Act→World→Prop} (s x:Operand) (t:TypeId) (ho:o.op= .call { callee:= .builtin .append,args:= #[s,x],argTypes:= #[t,t] }) (e:TypeId) (z:Value) (size bytes:Nat) (ht:P.underlying t=some (.slice e)) (hinfo:(P.info? e).map (fun i=>(i.zero,i.size,i.bytes))=some (some z,size,bytes)) (hzs:z.cells.size=size) (hsz:0<size) (ρ:Ghost) (tg:Tag) (v:Value) (n:Nat) (xs:List Value) (hs:a.eval s=v) (hown:OwnSl w ρ tg e size v n xs) (ad:Addr) (m c:Nat) (news:List Value) (hx:a.eval x= .slice (some ad) m c) (hl:news.length=m*size) (hnews:∀ j u,news[j]? =some u→w.cell? (ad.add j)=some u) (h1:∀ u ∈ news,u.oneCell'=true) (h63:n+m≤maxLen) (hbytes:(n+m)*bytes≤140737488355328) (h:∀ v' w' ρ',OwnSl w' ρ' tg e size v' (n+m) (xs++news)→Step (· =tg) w ρ w' ρ'→K (a.put o.dst v') w'):Oper.wp P o a w K Q:=by
 obtain ⟨i,hi,hzz⟩:=Option.map_eq_some_iff.1 hinfo
 simp only [Prod.mk.injEq] at hzz
 obtain ⟨hz0,hz1,hz2⟩:=hzz
 obtain ⟨v',w',ρ',hr,h2,h3⟩:=run_append_ownS (P:=P) w t o.type e i z size bytes ht hi hz0 hz1 hz2 hzs hsz ρ tg v n xs hown ad m c news hl hnews h1 h63 hbytes
 unfold Oper.wp execOp
 simp only [ho,resolve,invoke,builtin,Sem.run_bind,Sem.run_pure,Result.andThen_ok,List.map_toArray,List.map_cons,List.map_nil,hs,hx,hr]
 exact h v' w' ρ' h2 h3
theorem infoI64:(Try.prog.info? 2).map (fun i=>(i.zero,i.size,i.bytes))=some (some (.int .i64 0),1,8):=by kernel_rfl
theorem RnR.newOuts {p:Pg} {n N:Nat} {szs:List Int} {fuel:Int} {R:Nat} {w:World} {ρ:Ghost} {h:Hp} {B:List Nat} (hr:RnR p n N szs fuel R w ρ h B) (hG:OkG ρ) (hfr:Fresh w ρ) {w':World} {ρ':Ghost} {A':Option Addr} {c':Nat} {x:Int} (hO:OwnSl w' ρ' (40,1) 2 1 (.slice A' (h.outs.length+1) c') (h.outs.length+1) (h.outs.map (.int .i64 ·)++[.int .i64 x])) (hs:Step (· =(40,1)) w ρ w' ρ') :
 ∃ ρ2,OkG ρ2∧RnR p n N szs fuel R (w'.setCell ⟨R,7,none⟩ (.slice A' (h.outs.length+1) c')) ρ2 { h with outs:=h.outs++[x] } B∧Step RunQ w ρ (w'.setCell ⟨R,7,none⟩ (.slice A' (h.outs.length+1) c')) ρ2:=by
 let ρ2:Ghost:=fun b=>if ρ' b=some (40,1) then some (40,1) else if b<w.heap.size then ρ b else none
 have e2:∀ k,k<w.heap.size→ρ2 k=ρ k:=fun k hk=>by
  show (if ρ' k=some (40,1) then some (40,1) else if k<w.heap.size then ρ k else none)=ρ k
  rw [if_pos hk]
  split
  ·rename_i h
   rw [←hs.ghost k hk,h]
  ·rfl
 have hs2:Step (· =((40,1):Tag)) w ρ w' ρ2:=⟨hs.os,hs.tape,hs.output,hs.size,e2,hs.block,fun hf k hk=>by
  have h1:=hs.fresh hf k hk
  show (if ρ' k=some (40,1) then some (40,1) else if k<w.heap.size then ρ k else none)=none
  rw [h1,if_neg (by simp),if_neg (by have:=hs.size;omega)]⟩
 have hO2:OwnSl w' ρ2 (40,1) 2 1 (.slice A' (h.outs.length+1) c') (h.outs.length+1) (h.outs.map (.int .i64 ·)++[.int .i64 x]):=by
  refine ⟨hO.1,?_⟩
  rcases hO.2 with h|⟨g,cap,L,h0,hr,h1⟩
  ·exact .inl h
  ·exact .inr ⟨g,cap,L,h0,if_pos hr,h1⟩
 have hG2:OkG ρ2:=fun b t hb=>by
  have hb:(if ρ' b=some (40,1) then some (40,1) else if b<w.heap.size then ρ b else none)=some t:=hb
  split at hb
  ·cases hb
   exact ⟨by simp,by simp⟩
  ·split at hb
   ·exact hG b t hb
   ·cases hb
 have hRt:ρ2 R=some (40,0):=(e2 R hr.lt).trans hr.tag
 have hs3:Step RunQ w ρ (w'.setCell ⟨R,7,none⟩ (.slice A' (h.outs.length+1) c')) ρ2:=Step.setCell (T:=RunQ) (a:=⟨R,7,none⟩) (t:=(40,0)) (hs2.mono (fun t h=>by rw [h];exact Or.inl rfl)) hRt (Or.inl rfl) _
 have hs4:Step (· =((40,0):Tag)) w' ρ2 (w'.setCell ⟨R,7,none⟩ (.slice A' (h.outs.length+1) c')) ρ2:=Step.setCell (T:=(· =((40,0):Tag))) (a:=⟨R,7,none⟩) (t:=(40,0)) (Step.refl _ w' ρ2) hRt rfl _
 obtain ⟨A1,c1,A2,c2,A3,c3,A4,c4,A5,c5,g1,g2,g3,g4⟩:=hr.blk
 refine ⟨ρ2,hG2,⟨⟨A1,c1,A2,c2,A3,c3,A4,c4,A',c',?_,(g2.step hs2).step hs4,(g3.step hs2 (fun _ _ _ h=>h)).step hs4 (fun _ _ _ h=>h),?_⟩,hRt,hr.len,fun k c b hk hb=>((hr.cells k c b hk hb).step hs2 (by simp) (by simp)).step hs4 (by simp) (by simp),hr.t0,hr.t1,hr.fu⟩,hs3⟩
 ·have h5:=(hs2.blk' g1 hr.tag (by simp)).setCell 7 (.slice A' (h.outs.length+1) c')
  simp only [List.length_append,List.length_singleton]
  exact h5
 ·simp only [List.length_append,List.length_singleton,List.map_append,List.map_cons,List.map_nil]
  exact hO2.step hs4 (by simp)
def SimpD (K:Ctx) (fuel:Int) (s:St) (ag:List Vl) (fr:Fr) (h:Hp) (a':Ans) (h':Hp):Prop :=
 ((s.op=0∨s.op=1)∧ .ok (wd s.int)=a'∧h=h') ∨
 (s.op=2∧ .ok nilV=a'∧h=h') ∨
 (s.op=3∧ag.length=0∧ .ok (wd s.code)=a'∧h=h') ∨
 (s.op=3∧¬ag.length=0∧ .ok ⟨0,some h.cells.length⟩=a'∧{ h with cells:=h.cells++[⟨s.code,ag,none⟩] }=h') ∨
 ((s.op=4∨s.op=9)∧ .ok ⟨0,some h.cells.length⟩=a'∧{ h with cells:=h.cells++[⟨0,ag,none⟩] }=h') ∨
 (∃ a kk cc v,s.op=5∧ag[0]? =some a∧h.of a=some (kk,cc)∧atI cc.parts s.int=some v∧ .ok v=a'∧h=h') ∨
 (∃ a kk cc v,s.op=10∧ag[0]? =some a∧h.of a=some (kk,cc)∧atI cc.parts 0=some v∧ .ok v=a'∧h=h') ∨
 (∃ a b kk cc q,s.op=11∧ag[0]? =some a∧ag[1]? =some b∧h.of a=some (kk,cc)∧setI cc.parts 0 b=some q∧ .ok nilV=a'∧h.put kk { cc with parts:=q }=h') ∨
 (∃ b,s.op=7∧0<fr.length∧s.blocks[0]? =some b∧ .ok ⟨0,some h.cells.length⟩=a'∧{ h with cells:=h.cells++[⟨0,fr,some b⟩] }=h') ∨
 ((s.op=6∨s.op=8)∧callR K s.op s.code ag h=some (a',h')) ∨
 ((s.op=12∨s.op=13∨s.op=14∨s.op=15)∧arrayR fuel s.op ag h=some (a',h')) ∨
 (∃ a,s.op=16∧ag[0]? =some a∧ .error ⟨s.code,a.word⟩=a'∧h=h') ∨
 (∃ a,s.op=18∧ag[0]? =some a∧h.outs.length<1000000000∧ .ok nilV=a'∧{ h with outs:=h.outs++[a.word] }=h') ∨
 (∃ a b,(s.op=19∨s.op=20∨s.op=21∨s.op=22∨s.op=23∨s.op=24∨s.op=25)∧ag[0]? =some a∧ag[1]? =some b∧reckonR s.op a.word b.word=a'∧h=h')
theorem stR_parts {K:Ctx} {s:St} {fr:Fr} {h:Hp} {r:Ans × Fr × Hp} (hres:stR K s fr h=some r):∃ ag,collect fr s.args=some ag∧(((s.op=26∨s.op=27∨s.op=17)∧chooseR K s.op ag s.blocks fr h=some r)∨(¬(s.op=26∨s.op=27∨s.op=17)∧r.2.1=fr∧simpleR K s.op s.int s.code s.blocks ag fr h=some (r.1,r.2.2))):=by
 obtain ⟨op,out,ty,args,int,code,types,effs,regs,modes,region,keep,blocks⟩:=s
 rw [stR,Option.bind_eq_some_iff] at hres
 obtain ⟨ag,h1,h2⟩:=hres
 refine ⟨ag,h1,?_⟩
 show ((op=26∨op=27∨op=17)∧chooseR K op ag blocks fr h=some r)∨(¬(op=26∨op=27∨op=17)∧r.2.1=fr∧simpleR K op int code blocks ag fr h=some (r.1,r.2.2))
 by_cases h26:op=26
 ·rw [if_pos h26] at h2
  exact .inl ⟨.inl h26,by unfold chooseR;rw [if_pos h26];exact h2⟩
 rw [if_neg h26] at h2
 by_cases h27:op=27
 ·rw [if_pos h27] at h2
  exact .inl ⟨.inr (.inl h27),by unfold chooseR;rw [if_neg h26,if_pos h27];exact h2⟩
 rw [if_neg h27] at h2
 by_cases h17:op=17
 ·rw [if_pos h17] at h2
  exact .inl ⟨.inr (.inr h17),by unfold chooseR;rw [if_neg h26,if_neg h27];exact h2⟩
 rw [if_neg h17] at h2
 refine .inr ⟨fun h=>by rcases h with h|h|h <;> contradiction,?_⟩
 obtain ⟨q,h3,h4⟩:=Option.map_eq_some_iff.1 h2
 rw [←h4]
 exact ⟨rfl,h3⟩
theorem ite_parts {c:Prop} [Decidable c] {α:Type} {x y z:α} (h:(if c then x else y)=z):(c∧x=z)∨(¬c∧y=z):=by
 by_cases hc:c
 ·rw [if_pos hc] at h;exact .inl ⟨hc,h⟩
 ·rw [if_neg hc] at h;exact .inr ⟨hc,h⟩
theorem simp_or {K:Ctx} {fuel:Int} (hfu:K.fuel=fuel) {s:St} {ag:List Vl} {fr:Fr} {h:Hp} {a':Ans} {h':Hp} (hs:simpleR K s.op s.int s.code s.blocks ag fr h=some (a',h')):SimpD K fuel s ag fr h a' h':=by
 unfold simpleR at hs
 unfold SimpD
 rcases ite_parts hs with ⟨hop,hs⟩|⟨_,hs⟩
 ·cases hs
  exact .inl ⟨hop,rfl,rfl⟩
 rcases ite_parts hs with ⟨hop,hs⟩|⟨_,hs⟩
 ·cases hs
  exact .inr (.inl ⟨hop,rfl,rfl⟩)
 rcases ite_parts hs with ⟨hop,hs⟩|⟨_,hs⟩
 ·rcases ite_parts hs with ⟨hl,hs⟩|⟨hl,hs⟩ <;> cases hs
  ·exact .inr (.inr (.inl ⟨hop,hl,rfl,rfl⟩))
  ·exact .inr (.inr (.inr (.inl ⟨hop,hl,rfl,rfl⟩)))
 rcases ite_parts hs with ⟨hop,hs⟩|⟨_,hs⟩
 ·cases hs
  exact .inr (.inr (.inr (.inr (.inl ⟨hop,rfl,rfl⟩))))
 rcases ite_parts hs with ⟨hop,hs⟩|⟨_,hs⟩
 ·split at hs
  ·simp only [Option.bind_eq_some_iff,Option.map_eq_some_iff] at hs
   obtain ⟨⟨kk,cc⟩,hv,z,hz,he⟩:=hs
   cases he
   exact .inr (.inr (.inr (.inr (.inr (.inl ⟨_,kk,cc,z,hop,rfl,hv,hz,rfl,rfl⟩)))))
  ·cases hs
 rcases ite_parts hs with ⟨hop,hs⟩|⟨_,hs⟩
 ·split at hs
  ·simp only [Option.bind_eq_some_iff,Option.map_eq_some_iff] at hs
   obtain ⟨⟨kk,cc⟩,hv,z,hz,he⟩:=hs
   cases he
   exact .inr (.inr (.inr (.inr (.inr (.inr (.inl ⟨_,kk,cc,z,hop,rfl,hv,hz,rfl,rfl⟩))))))
  ·cases hs
 rcases ite_parts hs with ⟨hop,hs⟩|⟨_,hs⟩
 ·split at hs
  ·simp only [Option.bind_eq_some_iff,Option.map_eq_some_iff] at hs
   obtain ⟨⟨kk,cc⟩,hv,z,hz,he⟩:=hs
   cases he
   exact .inr (.inr (.inr (.inr (.inr (.inr (.inr (.inl ⟨_,_,kk,cc,z,hop,rfl,rfl,hv,hz,rfl,rfl⟩)))))))
  ·cases hs
 rcases ite_parts hs with ⟨hop,hs⟩|⟨_,hs⟩
 ·split at hs
  ·rename_i b bs hb
   split at hs
   ·cases hs
   ·rename_i hl
    cases hs
    exact .inr (.inr (.inr (.inr (.inr (.inr (.inr (.inr (.inl ⟨b,hop,(by omega),(by rw [hb];rfl),rfl,rfl⟩))))))))
  ·cases hs
 rcases ite_parts hs with ⟨hop,hs⟩|⟨_,hs⟩
 ·exact .inr (.inr (.inr (.inr (.inr (.inr (.inr (.inr (.inr (.inl ⟨hop,hs⟩)))))))))
 rcases ite_parts hs with ⟨hop,hs⟩|⟨_,hs⟩
 ·rw [hfu] at hs
  exact .inr (.inr (.inr (.inr (.inr (.inr (.inr (.inr (.inr (.inr (.inl ⟨hop,hs⟩))))))))))
 rcases ite_parts hs with ⟨hop,hs⟩|⟨_,hs⟩
 ·split at hs
  ·cases hs
   exact .inr (.inr (.inr (.inr (.inr (.inr (.inr (.inr (.inr (.inr (.inr (.inl ⟨_,hop,rfl,rfl,rfl⟩)))))))))))
  ·cases hs
 rcases ite_parts hs with ⟨hop,hs⟩|⟨_,hs⟩
 ·split at hs
  ·split at hs
   ·rename_i hl
    cases hs
    exact .inr (.inr (.inr (.inr (.inr (.inr (.inr (.inr (.inr (.inr (.inr (.inr (.inl ⟨_,hop,rfl,hl,rfl,rfl⟩))))))))))))
   ·cases hs
  ·cases hs
 rcases ite_parts hs with ⟨hop,hs⟩|⟨_,hs⟩
 ·split at hs
  ·cases hs
   exact .inr (.inr (.inr (.inr (.inr (.inr (.inr (.inr (.inr (.inr (.inr (.inr (.inr ⟨_,_,by omega,rfl,rfl,rfl,rfl⟩))))))))))))
  ·cases hs
 ·cases hs
section
variable (p:Pg) (n N:Nat) (szs:List Int) (fuel:Int) (R:Nat) (w:World) (ρ:Ghost) (h:Hp) (B:List Nat) (hr:RnR p n N szs fuel R w ρ h B) (hfr:Fresh w ρ) (hG:OkG ρ) (m:Nat) (s:St) (sb so:Nat) (hst:StAt w ρ m s sb so) (G gc:Nat) (fr:Fr) (hF:FrR w ρ B G gc fr)
include p n N szs fuel R w ρ h B hr hfr hG m s sb so hst G gc fr hF
theorem step_all (ag:List Vl) (hco:collect fr s.args=some ag) (K:Ctx) (hK:CtxC p n N szs fuel R K) (hmN:m≤N) (a':Ans) (fr':Fr) (h':Hp) (hd:((s.op=26∨s.op=27∨s.op=17)∧chooseR K s.op ag s.blocks fr h=some (a',fr',h')∧∀ b,b ∈ s.blocks→BlkQ p n N szs fuel R K b)∨fr=fr'∧SimpD K fuel s ag fr h a' h')  :
 Calls Try.prog 38 #[.pointer (some ⟨R,0,none⟩), .pointer (some ⟨sb,so,none⟩), .slice (some ⟨G,0,none⟩) fr.length gc] w (BlkP p n N szs fuel R w ρ B G gc a' fr' h'):=by
 have HD:=Hd.mk hd
 clear hd
 have HRN:=Hd.mk hr
 have HFR:=Hd.mk hfr
 have HG:=Hd.mk hG
 have HFM:=Hd.mk hF
 have HST:=Hd.mk hst
 have HCO:=Hd.mk hco
 have HS1:=Hd.mk ((Step.refl (fun _=>False) w ρ).alloc_tag (.cells #[.int .i64 0, .pointer none] 64) (43,w.heap.size))
 have HB0:Hd (Blk (w.alloc (.cells #[.int .i64 0, .pointer none] 64)) w.heap.size 64 [.int .i64 0, .pointer none]):=⟨Blk.new' _ _ _⟩
 have HT0:Hd (ρ.put w.heap.size (43,w.heap.size) w.heap.size=some (43,w.heap.size)):=⟨Ghost.put_same _ _ _⟩
 have HG1:Hd (OkG (ρ.put w.heap.size (43,w.heap.size))):=⟨hG.frame _⟩
 obtain ⟨Aa,ca,_,_,e0,_,e9,_,_,_,hints,_⟩:=hst.cells
 have HINT:=Hd.mk hints
 have lS:=hst.lt
 have hal:s.args.length≤1048576:=by
  obtain ⟨_,_,hv,_,_,h4,_⟩:=hints.out
  cases hv
  omega
 have hmk:=makeV (w.alloc (.cells #[.int .i64 0, .pointer none] 64)) 0 s.args.length (Nat.zero_le _) (by omega)
 have hXb:(w.alloc (.cells #[.int .i64 0, .pointer none] 64)).heap.size=w.heap.size+1:=by simp
 have HMD:=Hd.mk (OwnSl.made0 (w.alloc (.cells #[.int .i64 0, .pointer none] 64)) (ρ.put w.heap.size (43,w.heap.size)) (49,0) 64 2 s.args.length (flatV [] (List.replicate s.args.length nilV)).toArray (by rw [List.size_toArray,flatV_len,List.length_replicate];exact Nat.le_refl _) (by unfold maxLen;omega))
 have HSM:=Hd.mk ((Step.refl (· =((49,0):Tag)) (w.alloc (.cells #[.int .i64 0, .pointer none] 64)) (ρ.put w.heap.size (43,w.heap.size))).alloc_tag (.cells (flatV [] (List.replicate s.args.length nilV)).toArray 64) (49,0))
 have HAL:=Hd.mk hal
 rw [hXb] at hmk HMD HSM
 simp only [Int.natCast_zero] at hmk
 have hgl:goInt s.args.length= .int .i64 s.args.length:=rfl
 clear hr hfr hG hF hst hco hints e0 hXb
 go_enter Try.func38,Try.ntmps38
 go_wp2_with fail
 clear hmk e9 lS hgl
 generalize (ρ.put w.heap.size (43,w.heap.size)).put (w.heap.size+1) (49,0)=ρm at *
 generalize (w.alloc (.cells #[.int .i64 0, .pointer none] 64)).alloc (.cells (flatV [] (List.replicate s.args.length nilV)).toArray 64)=Wm at *
 have HFRa:=Hd.mk (HS1.out.fresh HFR.out)
 have HFMa:=Hd.mk (HFM.out.step HS1.out (fun h=>h))
 have HRNa:=Hd.mk (HRN.out.step HS1.out (fun _ _ h=>h))
 have HSTa:=Hd.mk (HST.out.step HS1.out)
 have hGS:Hd (¬G=w.heap.size):=⟨by have:=HFM.out.lt;omega⟩
 generalize ρ.put w.heap.size (43,w.heap.size)=ρ1 at *
 generalize w.alloc (.cells #[.int .i64 0, .pointer none] 64)=W1 at *
 have HINT1:=Hd.mk (HINT.out.step HS1.out)
 go_loopw [8,22] (fun vo vk wr=>∃ (k g c:Nat) (ρk:Ghost),vo= .slice (some ⟨g,0,none⟩) k c∧vk= .int .i64 k∧k≤s.args.length∧OwnSl wr ρk (49,0) 64 2 vo k (flatV B (ag.take k))∧Step (· =((49,0):Tag)) W1 ρ1 wr ρk) (fun _ v _=>s.args.length-(intOf v).toNat)
 case atStart=>exact ⟨0,w.heap.size+1,s.args.length,ρm,rfl,by simp,by omega,HMD.out,HSM.out⟩
 case round =>
  obtain ⟨k,g,c,ρk,rfl,rfl,hk,hO,hS⟩:=hrel
  have HO:=Hd.mk hO
  have HSk:=Hd.mk hS
  clear hO hS
  obtain ⟨Wk,rfl⟩:∃ W,W=wr:=⟨_,rfl⟩
  by_cases hlt:k<s.args.length
  ·have hlti:(k:Int)<s.args.length:=by omega
   have hkz:(0:Int)≤k:=by omega
   have hxx:=List.getElem?_eq_getElem hlt
   obtain ⟨v,hat,hag⟩:=collect_drop hxx HCO.out
   obtain ⟨bi,oi,hBi,_,f3,lbi⟩:=(HINT1.out.step HSk.out).elem hxx
   subst hBi
   obtain ⟨ii,hii,hil,hget⟩:=atI_get hat
   rw [hii] at f3
   have hfk:=HFMa.out.step HSk.out (by simp)
   obtain ⟨g0,g1,_,hvo⟩:=hfk.cells hget
   have lG:=hfk.lt
   have hilf:(ii:Int)<fr.length:=by omega
   have hiz:(0:Int)≤ii:=by omega
   have htf:=take_flat B hag
   have HTF:=Hd.mk htf
   have hb16:(k+1)*16≤140737488355328:=by have:=HAL.out;omega
   have hkm:k+1≤maxLen:=by unfold maxLen;have:=HAL.out;omega
   have HBM:=Hd.mk (And.intro hb16 hkm)
   clear hat hag hii hget hfk hvo htf hb16 hkm hxx
   go_wp2_with (at_builtin;refine wpList_append_boxW rfl _ _ _ rfl 64 _ 2 16 Try.underlying61 infoV rfl (by decide) ρk (49,0) (.slice (some ⟨g,0,none⟩) k c) k (flatV B (ag.take k)) [.int .i64 v.word, .pointer (ptrV B v)] rfl HO.out 1 _ rfl (by first|rfl|simp) rfl (by simp [Value.oneCell']) HBM.out.2 HBM.out.1 ?zo)
   case zo =>
   intro v1 W5 ρ5 hO5 hS5
   obtain ⟨g5,c5,rfl,_⟩:=hO5.some (by omega)
   have HO5:=Hd.mk hO5
   have HS5:=Hd.mk (HSk.out.trans hS5)
   clear hO5 hS5
   go_wp2
   go_roundw
   case rel=>exact ⟨k+1,g5,c5,ρ5,rfl,by go_num,by omega,by rw [HTF.out];exact HO5.out,HS5.out⟩
   case measure=>simp [intOf];omega
  ·have hke:k=s.args.length:=by omega
   have hagl:ag.length=s.args.length:=collect_len HCO.out
   have hO:=HO.out
   rw [List.take_of_length_le (by omega)] at hO
   have hno:∀ b,ρ1 b≠some (49,0):=HG1.out.no (t:=(49,0)) (by decide)
   have hnew:=hO.newer HSk.out hno
   obtain ⟨TT,hTT,hgp⟩:∃ TT:Tag,((s.op=3∧¬ag.length=0∨s.op=4∨s.op=9→TT=(42,h.cells.length))∧(¬(s.op=3∧¬ag.length=0∨s.op=4∨s.op=9)→TT=(43,g)))∧OkG (ρ1.put g TT):=by
    by_cases hc:s.op=3∧¬ag.length=0∨s.op=4∨s.op=9
    ·exact ⟨_,⟨fun _=>rfl,fun h=>absurd hc h⟩,HG1.out.row _ _⟩
    ·exact ⟨_,⟨fun h=>absurd h hc,fun _=>rfl⟩,HG1.out.frame _⟩
   have HTT:=Hd.mk hTT
   have HGp:=Hd.mk hgp
   clear hTT hgp
   obtain ⟨hO2,hs2⟩:=hO.adopt HSk.out (fun b t h e=>hno b (by rw [h,e])) HFRa.out hnew TT
   have hgt:ρ1.put g TT g=some TT:=Ghost.put_same _ _ _
   generalize ρ1.put g TT=ρp at *
   rw [show k=ag.length by omega] at hO2
   have HOp:=Hd.mk hO2
   have HFMp:=Hd.mk (HFMa.out.step hs2 (fun h=>h))
   have HRNp:=Hd.mk (HRNa.out.step hs2 (fun _ _ h=>h))
   have hstp:=HSTa.out.step hs2
   have HSTp:=Hd.mk hstp
   have HFRp:=Hd.mk (hs2.fresh HFRa.out)
   have HSp:Hd (Step (RunT G) w ρ Wk ρp):=⟨(HS1.out.trans hs2).mono (fun _ h=>h.elim)⟩
   have hbp:=hs2.blk' HB0.out HT0.out (fun h=>h)
   have HBp:=Hd.mk hbp
   have HTp:=Hd.mk (hs2.tag HB0.out.lt HT0.out)
   have hGg:Hd (¬G=g):=⟨by have:=HFMa.out.lt;omega⟩
   have HGT:=Hd.mk hgt
   have HNG:Hd (¬g=w.heap.size):=⟨by have:=HB0.out.lt;omega⟩
   have HLg:Hd (g<Wk.heap.size):=⟨by
    rcases hO.2 with ⟨h0,_⟩|⟨g',cap,L,h0,_,hb,_⟩
    ·cases h0
    ·cases h0
     exact hb.lt⟩
   have HVOK:Hd (∀ v,v ∈ ag→VOk B.length v):=⟨fun v hv=>by
    obtain ⟨i,hi⟩:=List.getElem?_of_mem hv
    obtain ⟨u,h1,h2⟩:=collect_drop (List.getElem?_eq_getElem (show i<s.args.length by rw [←hagl];exact (List.getElem?_eq_some_iff.1 hi).1)) HCO.out
    rw [hi] at h2
    cases h2
    obtain ⟨ii,_,_,hget⟩:=atI_get h1
    exact HFM.out.ok v (List.mem_of_getElem? hget)⟩
   have HAGL:=Hd.mk hagl
   obtain ⟨Aa,ca,Ab,cb,e0,_,_,e10,e11,e18,_,hbks,_,_,i3,i4⟩:=hstp.cells
   have HBKS:=Hd.mk hbks
   have HI34:=Hd.mk (And.intro i3 i4)
   have lS:=hstp.lt
   have q0:Wk.cell? ⟨w.heap.size,0,none⟩=some (.int .i64 0):=hbp.cell (i:=0) rfl
   have q1:Wk.cell? ⟨w.heap.size,1,none⟩=some (.pointer none):=hbp.cell (i:=1) rfl
   have gg0:=hbp.free 0
   have gg1:=hbp.free 1
   have lss:=hbp.lt
   have hltI:¬((k:Int)<s.args.length):=by omega
   have hkag:k=ag.length:=by omega
   subst hkag
   clear hke hO hno hnew hO2 hs2 hstp hbp hbks i3 i4 hgt hagl hk
   rcases HD.out with hD|⟨hff,hs⟩
   ·obtain ⟨hop,hres,hQ⟩:=hD
    have hop:s.op=26∨s.op=27∨s.op=17:=hop
    rcases hop with hop|hop|hop
    all_goals (
     have HOP:=Hd.mk hop
     have htt:=HTT.out.2 (by omega)
     subst htt
     clear hop
     have HQQ:=Hd.mk hQ
     have HMN:=Hd.mk hmN
     clear hQ hmN
     have HRES:=Hd.mk hres
     clear hres
     rw [HOP.out] at e0
     have HARG:Hd (FrR Wk ρp B g c ag):=⟨⟨HOp.out,HGT.out,HLg.out,HVOK.out,by have:=HAL.out;have:=HAGL.out;omega⟩⟩
     have hcall:=choose_any p n N szs fuel R Wk ρp h B HRNp.out HFRp.out HGp.out K m HMN.out s sb so HSTp.out HQQ.out g c G gc hGg.out fr HFMp.out ag HARG.out (by rw [HOP.out];omega) a' fr' h' HRES.out
     have HCALL2:=Hd.mk hcall
     clear hcall
     go_wp2_with fail
     refine HCALL2.out.mono ?_
     rintro e W3 ⟨ρ3,B3,x3,s3,rfl,ha3,hr3,hf3,hs3,hg3⟩
     have HA3:=Hd.mk ha3
     have HR3:=Hd.mk hr3
     have HS3:=Hd.mk (HSp.out.trans hs3)
     have HG3:=Hd.mk hg3
     have HF3:=Hd.mk hf3
     have hb3:=hs3.blk' HBp.out HTp.out (fun h=>by rcases h with h|h;(rcases h with h|h|h <;> cases h);exact hGS.out (congrArg Prod.snd h).symm)
     have HT3:=Hd.mk (hs3.tag HBp.out.lt HTp.out)
     have HB3:=Hd.mk hb3
     clear q0 q1 gg0 gg1 lss e0 e10 e11 e18 lS
     have q0:W3.cell? ⟨w.heap.size,0,none⟩=some (.int .i64 0):=hb3.cell (i:=0) rfl
     have q1:W3.cell? ⟨w.heap.size,1,none⟩=some (.pointer none):=hb3.cell (i:=1) rfl
     have g0:=hb3.free 0
     have g1:=hb3.free 1
     have l3:=hb3.lt
     obtain ⟨u0,u1,rfl⟩:=ha3.two
     clear ha3 hr3 hf3 hs3 hg3 hb3 HCALL2
     go_wp2
     refine bodyPost_ret (results_cell2 rfl _ _ w.heap.size [.int .i64 u0, .pointer u1] rfl ?_ Try.underlying64 rfl) rfl ?_
     ·exact (HB3.out.setCell 0 _).setCell 1 _
     ·exact BlkP.fin HS3.out (Nat.le_refl _) HT3.out hGS.out HR3.out HF3.out HA3.out HG3.out)
   ·subst hff
    unfold SimpD at hs
    rcases hs with ⟨(hop|hop),rfl,rfl⟩|⟨hop,rfl,rfl⟩|⟨hop,hl0,rfl,rfl⟩|⟨hop,hl0,rfl,rfl⟩|⟨(hop|hop),rfl,rfl⟩|⟨a,kk,cc,v,hop,hg0,hv,hat,rfl,rfl⟩|⟨a,kk,cc,v,hop,hg0,hv,hat,rfl,rfl⟩|⟨a,b,kk,cc,q,hop,hg0,hg1,hv,hse,rfl,rfl⟩|⟨b,hop,hfl0,hbz,rfl,rfl⟩|⟨(hop|hop),hres⟩|⟨(hop|hop|hop|hop),hres⟩|⟨a,hop,hg0,rfl,rfl⟩|⟨a,hop,hg0,hlo,rfl,rfl⟩|⟨a,b,(hop|hop|hop|hop|hop|hop|hop),hg0,hg1,rfl,rfl⟩
    iterate 2 · (
     have HOP:=Hd.mk hop
     have htt:=HTT.out.2 (by omega)
     subst htt
     clear hop
     rw [HOP.out] at e0
     go_wp2
     refine bodyPost_ret (results_cell2 rfl _ _ w.heap.size [.int .i64 (s.int), .pointer (none)] rfl ?_ Try.underlying64 rfl) rfl ?_
     ·exact (HBp.out.setCell 0 _).setCell 1 _
     ·exact BlkP.fin (B':=[]) HSp.out (Nat.le_refl _) HTp.out hGS.out (by rw [List.append_nil];exact HRNp.out) (by rw [List.append_nil];exact HFMp.out) ⟨by first|rfl|(rw [List.append_nil];rfl),rfl,nilVOk _ _ HI34.out.1⟩ HGp.out)
    ·have HOP:=Hd.mk hop
     have htt:=HTT.out.2 (by omega)
     subst htt
     clear hop
     rw [HOP.out] at e0
     go_wp2
     refine bodyPost_ret (results_cell2 rfl _ _ w.heap.size [.int .i64 (0), .pointer (none)] rfl ?_ Try.underlying64 rfl) rfl ?_
     ·exact (HBp.out.setCell 0 _).setCell 1 _
     ·exact BlkP.fin (B':=[]) HSp.out (Nat.le_refl _) HTp.out hGS.out (by rw [List.append_nil];exact HRNp.out) (by rw [List.append_nil];exact HFMp.out) ⟨by first|rfl|(rw [List.append_nil];rfl),rfl,nilVOk _ 0 (I64_lit 0 (by decide) (by decide))⟩ HGp.out
    ·have HOP:=Hd.mk hop
     have htt:=HTT.out.2 (by omega)
     subst htt
     clear hop
     have HL0:=Hd.mk hl0
     clear hl0
     rw [HOP.out] at e0
     have w1:((ag.length:Int) == 0)=true:=by rw [HL0.out];rfl
     have w2:decide ((ag.length:Int)=0)=true:=by rw [HL0.out];rfl
     have w3:(ag.length:Int)=0:=by rw [HL0.out];rfl
     have w4:ag=[]:=List.length_eq_zero_iff.1 HL0.out
     go_wp2
     refine bodyPost_ret (results_cell2 rfl _ _ w.heap.size [.int .i64 (s.code), .pointer (none)] rfl ?_ Try.underlying64 rfl) rfl ?_
     ·exact (HBp.out.setCell 0 _).setCell 1 _
     ·exact BlkP.fin (B':=[]) HSp.out (Nat.le_refl _) HTp.out hGS.out (by rw [List.append_nil];exact HRNp.out) (by rw [List.append_nil];exact HFMp.out) ⟨by first|rfl|(rw [List.append_nil];rfl),rfl,nilVOk _ _ HI34.out.2⟩ HGp.out
    ·have HOP:=Hd.mk hop
     have htt:=HTT.out.1 (by omega)
     subst htt
     clear hop
     have HL0:=Hd.mk hl0
     clear hl0
     rw [HOP.out] at e0
     have w1:((ag.length:Int) == 0)=false:=beq_eq_false_iff_ne.2 (by have:=HL0.out;omega)
     have w2:decide ((ag.length:Int)=0)=false:=decide_eq_false (by have:=HL0.out;omega)
     have w3:¬(ag.length:Int)=0:=by have:=HL0.out;omega
     have hnc:=HRNp.out.newCell ⟨s.code,ag,none⟩ (some ⟨g,0,none⟩) c none HOp.out rfl (HI34.out.2) HVOK.out (by have:=HAL.out;have:=HAGL.out;show ag.length≤1100000;omega)
     have HNC:=Hd.mk hnc
     have HLN:=Hd.mk HRNp.out.len.symm
     clear hnc
     go_wp2
     refine bodyPost_ret (results_cell2 rfl _ _ w.heap.size [.int .i64 0, .pointer (some ⟨Wk.heap.size,0,none⟩)] rfl ?_ Try.underlying64 rfl) rfl ?_
     ·exact ((HBp.out.setCell 0 _).setCell 1 _).alloc _
     ·have l3:=HBp.out.lt
      rw [←World.setCell_alloc_past _ _ _ _ (by simpa using l3), ←World.setCell_alloc_past _ _ _ _ l3]
      refine BlkP.fin (B':=[Wk.heap.size]) (HSp.out.trans (HNC.out.2.mono (fun _ h=>h.elim))) (Nat.le_refl _) ((Ghost.put_ne _ _ (by omega)).trans HTp.out) hGS.out HNC.out.1 ((HFMp.out.step HNC.out.2 (fun h=>h)).app _) ⟨?_,rfl,newVOk HLN.out⟩ (HGp.out.cell _ _)
      rw [newVal HLN.out]
    iterate 2 · (
     have HOP:=Hd.mk hop
     have htt:=HTT.out.1 (by omega)
     subst htt
     clear hop
     rw [HOP.out] at e0
     have hnc:=HRNp.out.newCell ⟨0,ag,none⟩ (some ⟨g,0,none⟩) c none HOp.out rfl (I64_lit 0 (by decide) (by decide)) HVOK.out (by have:=HAL.out;have:=HAGL.out;show ag.length≤1100000;omega)
     have HNC:=Hd.mk hnc
     have HLN:=Hd.mk HRNp.out.len.symm
     clear hnc
     go_wp2
     refine bodyPost_ret (results_cell2 rfl _ _ w.heap.size [.int .i64 0, .pointer (some ⟨Wk.heap.size,0,none⟩)] rfl ?_ Try.underlying64 rfl) rfl ?_
     ·exact ((HBp.out.setCell 0 _).setCell 1 _).alloc _
     ·have l3:=HBp.out.lt
      rw [←World.setCell_alloc_past _ _ _ _ (by simpa using l3), ←World.setCell_alloc_past _ _ _ _ l3]
      refine BlkP.fin (B':=[Wk.heap.size]) (HSp.out.trans (HNC.out.2.mono (fun _ h=>h.elim))) (Nat.le_refl _) ((Ghost.put_ne _ _ (by omega)).trans HTp.out) hGS.out HNC.out.1 ((HFMp.out.step HNC.out.2 (fun h=>h)).app _) ⟨?_,rfl,newVOk HLN.out⟩ (HGp.out.cell _ _)
      rw [newVal HLN.out])
    ·have HOP:=Hd.mk hop
     have htt:=HTT.out.2 (by omega)
     subst htt
     clear hop
     have HG0:=Hd.mk hg0
     have HV:=Hd.mk hv
     have HAT:=Hd.mk hat
     clear hg0 hv hat
     rw [HOP.out] at e0
     have HARG:Hd (FrR Wk ρp B g c ag):=⟨⟨HOp.out,HGT.out,HLg.out,HVOK.out,by have:=HAL.out;have:=HAGL.out;omega⟩⟩
     have hagN:0<ag.length:=(List.getElem?_eq_some_iff.1 HG0.out).1
     have hagl2:(0:Int)<ag.length:=by omega
     obtain ⟨_,c1,_,_⟩:=HARG.out.cells (i:=0) (v:=a) HG0.out
     rw [Nat.zero_mul,Nat.zero_add] at c1
     obtain ⟨b0,A,cp,ba,hpt,hck,hbk,lb0,hcr,d0,d1,_,hO,_⟩:=HRNp.out.at HV.out
     rw [hpt] at c1
     have lg:=HLg.out
     obtain ⟨ii,hii,hil,hget⟩:=atI_get HAT.out
     rw [hii] at e10
     obtain ⟨g2,c2',hAg,_,_,_,hgc,_,lg2⟩:=hO.some (by omega)
     cases hAg
     obtain ⟨f0,f1⟩:=flatV_get B hget
     have p0:=(hgc (ii*2) (by omega)).trans f0
     have p1:=(hgc (ii*2+1) (by omega)).trans f1
     have HVO:=Hd.mk (hcr.ok v (List.mem_of_getElem? hget))
     have hpl:(ii:Int)<cc.parts.length:=by omega
     have hiz:(0:Int)≤ii:=by omega
     have n1:=HNG.out
     have n2:¬b0=w.heap.size:=ne_tag hcr.tag HTp.out (by simp)
     have hg2t:ρp g2=some (42,kk):=by
      obtain ⟨_,_,hv',hr',_⟩:=hO.some (by omega)
      cases hv'
      exact hr'
     have n3:¬g2=w.heap.size:=ne_tag hg2t HTp.out (by simp)
     have n4:¬sb=w.heap.size:=ne_tag HSTp.out.tag HTp.out (by simp)
     clear hO hck hbk hcr hpt hget f0 f1 hgc hii hg2t
     go_wp2_with fail
     have HSc:=Hd.mk ((Step.refl (fun _=>False) Wk ρp).drew)
     refine wp_region_held_drew (S:=(fun wv=>(∀ a:Addr,¬a.block=w.heap.size→wv.cell? a=Wk.cell? a))) (by kernel_rfl) ((fun _ _=>rfl)) (fun hHeld=>?_)
     refine tkP 0 ?_
     refine tkP 1 ?_
     refine tkP 2 ?_
     refine tkP 3 ?_
     refine tkP 4 ?_
     refine tkP 5 ?_
     refine tkP 6 ?_
     refine tkP 7 ?_
     refine tkP 8 ?_
     refine tkP 9 ?_
     refine tkP 10 ?_
     refine tkP 11 ?_
     refine tkP 12 ?_
     refine tkR 13 (fun K hK=>?_)
     go_simp
     try clear hHeld
     refine tkK hK (fun a ha=>(cellSetNe ha 1 _).trans (cellSetNe ha 0 _)) (fun hHeld=>?_)
     clear hK K
     refine tkP 14 ?_
     refine wpAnyH_done (by kernel_rfl) ?_ _
     try clear hHeld
     clear e0 e10 e11 e18 lS c1 d0 d1 p0 p1 lb0 lg lg2
     go_wp2
     refine bodyPost_ret (results_cell2 rfl _ _ w.heap.size [.int .i64 (v.word), .pointer (ptrV B v)] rfl ?_ Try.underlying64 rfl) rfl ?_
     ·exact ((HBp.out.setCell 0 _).setCell 1 _).drew
     ·exact BlkP.drew (BlkP.fin (B':=[]) HSp.out (Nat.le_refl _) HTp.out hGS.out (by rw [List.append_nil];exact HRNp.out) (by rw [List.append_nil];exact HFMp.out) ⟨by first|rfl|(rw [List.append_nil];rfl),rfl,(by rw [List.append_nil];exact HVO.out)⟩ HGp.out)
    ·have HOP:=Hd.mk hop
     have htt:=HTT.out.2 (by omega)
     subst htt
     clear hop
     have HG0:=Hd.mk hg0
     have HV:=Hd.mk hv
     have HAT:=Hd.mk hat
     clear hg0 hv hat
     rw [HOP.out] at e0
     have HARG:Hd (FrR Wk ρp B g c ag):=⟨⟨HOp.out,HGT.out,HLg.out,HVOK.out,by have:=HAL.out;have:=HAGL.out;omega⟩⟩
     have hagN:0<ag.length:=(List.getElem?_eq_some_iff.1 HG0.out).1
     have hagl2:(0:Int)<ag.length:=by omega
     obtain ⟨_,c1,_,_⟩:=HARG.out.cells (i:=0) (v:=a) HG0.out
     rw [Nat.zero_mul,Nat.zero_add] at c1
     obtain ⟨b0,A,cp,ba,hpt,hck,hbk,lb0,hcr,d0,d1,_,hO,_⟩:=HRNp.out.at HV.out
     rw [hpt] at c1
     have lg:=HLg.out
     obtain ⟨ii,hii,hil,hget⟩:=atI_get HAT.out
     have hi0:ii=0:=by omega
     subst hi0
     obtain ⟨g2,c2',hAg,_,_,_,hgc,_,lg2⟩:=hO.some (by omega)
     cases hAg
     obtain ⟨f0,f1⟩:=flatV_get B hget
     have p0:=(hgc 0 (by omega)).trans f0
     have p1:=(hgc 1 (by omega)).trans f1
     have HVO:=Hd.mk (hcr.ok v (List.mem_of_getElem? hget))
     have hpl:(0:Int)<cc.parts.length:=by omega
     have hplN:0<cc.parts.length:=hil
     clear hO hck hbk hcr hpt hget f0 f1 hgc hii
     go_wp2
     refine bodyPost_ret (results_cell2 rfl _ _ w.heap.size [.int .i64 (v.word), .pointer (ptrV B v)] rfl ?_ Try.underlying64 rfl) rfl ?_
     ·exact (HBp.out.setCell 0 _).setCell 1 _
     ·exact BlkP.fin (B':=[]) HSp.out (Nat.le_refl _) HTp.out hGS.out (by rw [List.append_nil];exact HRNp.out) (by rw [List.append_nil];exact HFMp.out) ⟨by first|rfl|(rw [List.append_nil];rfl),rfl,(by rw [List.append_nil];exact HVO.out)⟩ HGp.out
    ·have HOP:=Hd.mk hop
     have htt:=HTT.out.2 (by omega)
     subst htt
     clear hop
     have HG0:=Hd.mk hg0
     have HGG1:=Hd.mk hg1
     have HV:=Hd.mk hv
     have HSE:=Hd.mk hse
     clear hg0 hg1 hv hse
     rw [HOP.out] at e0
     have HARG:Hd (FrR Wk ρp B g c ag):=⟨⟨HOp.out,HGT.out,HLg.out,HVOK.out,by have:=HAL.out;have:=HAGL.out;omega⟩⟩
     have hagN:0<ag.length:=(List.getElem?_eq_some_iff.1 HG0.out).1
     have hagl2:(0:Int)<ag.length:=by omega
     obtain ⟨_,c1,_,_⟩:=HARG.out.cells (i:=0) (v:=a) HG0.out
     rw [Nat.zero_mul,Nat.zero_add] at c1
     obtain ⟨b0,A,cp,ba,hpt,hck,hbk,lb0,hcr,d0,d1,_,hO,_⟩:=HRNp.out.at HV.out
     rw [hpt] at c1
     have lg:=HLg.out
     obtain ⟨f4,f5,_,hvb⟩:=HARG.out.cells (i:=1) (v:=b) HGG1.out
     rw [Nat.one_mul] at f4 f5
     have hagN1:1<ag.length:=(List.getElem?_eq_some_iff.1 HGG1.out).1
     have hagl3:(1:Int)<ag.length:=by omega
     obtain ⟨ii,hii,hil,hset⟩:=setI_get HSE.out
     have hi0:ii=0:=by omega
     subst hi0
     obtain ⟨g2,c2',hAg,hg2t,_,_,hgc,hgf,lg2⟩:=hO.some (by omega)
     cases hAg
     have hput:=HRNp.out.put (i:=0) (v:=b) hck hbk d1 hil hvb
     rw [←hset] at hput
     simp only [Nat.zero_mul,Nat.zero_add] at hput
     have HPUT:=Hd.mk hput
     have p0:=(hgc 0 (by omega)).trans (flatV_get B (List.getElem?_eq_getElem hil)).1
     have p1:=(hgc 1 (by omega)).trans (flatV_get B (List.getElem?_eq_getElem hil)).2
     have pf0:=hgf 0
     have pf1:=hgf 1
     generalize cc.parts[0]=old at p0 p1
     have hpl:(0:Int)<cc.parts.length:=by omega
     have hplN:0<cc.parts.length:=hil
     have m1:¬g=g2:=ne_tag HGT.out hg2t (by simp)
     have m2:¬b0=g2:=ne_tag hcr.tag hg2t (by simp)
     have m3:¬sb=g2:=ne_tag HSTp.out.tag hg2t (by simp)
     have hg2:=Hd.mk hg2t
     clear hO hck hbk hcr hpt hgc hgf hii hvb hput hset hg2t
     go_wp2_with fail
     have HSc:=Hd.mk ((Step.refl (fun _=>False) Wk ρp).drew)
     refine wp_region_held_drew (S:=(fun wv=>∀ a:Addr,¬a.block=g2→wv.cell? a=Wk.cell? a)) (by kernel_rfl) ((fun _ _=>rfl)) (fun hHeld=>?_)
     refine tkP 0 ?_
     refine tkP 1 ?_
     refine tkP 2 ?_
     refine tkP 3 ?_
     refine tkP 4 ?_
     refine tkP 5 ?_
     refine tkP 6 ?_
     refine tkP 7 ?_
     refine tkP 8 ?_
     refine tkP 9 ?_
     refine tkP 10 ?_
     refine tkR 11 (fun K hK=>?_)
     go_simp
     try clear hHeld
     refine tkK hK (fun a ha=>(cellSetNe ha 1 _).trans (cellSetNe ha 0 _)) (fun hHeld=>?_)
     clear hK K
     refine wpAnyH_done (by kernel_rfl) ?_ _
     try clear hHeld
     have hs5:=HPUT.out.2.drew
     have hr5:=HPUT.out.1.step ((Step.refl (fun _=>False) _ ρp).drew) (fun _ _ h=>h)
     clear e0 e10 e11 e18 lS c1 d0 d1 p0 p1 pf0 pf1 lb0 lg lg2 q0 q1 gg0 gg1 lss f4 f5 m1 m2 m3 HPUT
     generalize ((Wk.setCell ⟨g2,0,none⟩ (.int .i64 b.word)).setCell ⟨g2,1,none⟩ (.pointer (ptrV B b))).drew=W5 at *
     have HRN5:=Hd.mk hr5
     have HS5:=Hd.mk (HSp.out.trans (hs5.mono (T':=RunT G) (fun t h=>Or.inl (Or.inr (Or.inr (by rw [h]))))))
     have hb5:=hs5.blk' HBp.out HTp.out (by simp)
     have HB5:=Hd.mk hb5
     have HT5:=Hd.mk (hs5.tag HBp.out.lt HTp.out)
     have HF5:=Hd.mk (HFMp.out.step hs5 (by simp))
     have q0:W5.cell? ⟨w.heap.size,0,none⟩=some (.int .i64 0):=hb5.cell (i:=0) rfl
     have q1:W5.cell? ⟨w.heap.size,1,none⟩=some (.pointer none):=hb5.cell (i:=1) rfl
     have gg0:=hb5.free 0
     have gg1:=hb5.free 1
     have lss:=hb5.lt
     clear hr5 hs5 hb5
     go_wp2
     refine bodyPost_ret (results_cell2 rfl _ _ w.heap.size [.int .i64 0, .pointer none] rfl ?_ Try.underlying64 rfl) rfl ?_
     ·exact (HB5.out.setCell 0 _).setCell 1 _
     ·exact BlkP.fin (B':=[]) HS5.out (Nat.le_refl _) HT5.out hGS.out (by rw [List.append_nil];exact HRN5.out) (by rw [List.append_nil];exact HF5.out) ⟨by first|rfl|(rw [List.append_nil];rfl),rfl,nilVOk _ 0 (I64_lit 0 (by decide) (by decide))⟩ HGp.out
    ·have HOP:=Hd.mk hop
     have htt:=HTT.out.2 (by omega)
     subst htt
     clear hop
     have HMN:=Hd.mk hmN
     clear hmN
     have HFL0:=Hd.mk hfl0
     have HBZ:=Hd.mk hbz
     clear hfl0 hbz
     rw [HOP.out] at e0
     obtain ⟨bb,o,hAb,hat⟩:=HBKS.out.place HBZ.out
     subst hAb
     rw [Nat.zero_mul,Nat.add_zero] at hat
     have HAT:=Hd.mk hat
     have hbN:0<s.blocks.length:=(List.getElem?_eq_some_iff.1 HBZ.out).1
     have hbI:(0:Int)<s.blocks.length:=by omega
     have HLN:=Hd.mk HRNp.out.len.symm
     have n4:¬sb=w.heap.size:=ne_tag HSTp.out.tag HTp.out (by simp)
     clear hat
     go_wp2_with fail
     have HSc:=Hd.mk ((Step.refl (fun _=>False) Wk ρp).drew)
     refine wp_region_held_drew (S:=(fun wv=>∀ a:Addr,a.block<Wk.heap.size→¬a.block=w.heap.size→wv.cell? a=Wk.cell? a)) (by kernel_rfl) (keepR_of HSc.out) (fun hHeld=>?_)
     refine tkP 0 ?_
     refine tkP 2 ?_
     refine tkP 3 ?_
     refine tkP 4 ?_
     refine tkP 5 ?_
     refine tkP 6 ?_
     refine tkR 1 (fun K hK=>?_)
     go_simp
     go_at_call 44
     refine (clone_any Wk.drew ρp (43,G) G fr.length gc fr B HFMp.out.own.drew rfl HFL0.out HFMp.out.sz (HSc.out.fresh HFRp.out) HGp.out).mono ?_
     rintro e Wc ⟨Xc,cpc,rfl,hxc,hOc⟩
     obtain ⟨hO2,hs2⟩:=hOc (42,h.cells.length)
     have HNX:Hd (¬Xc=w.heap.size):=⟨by have:=HBp.out.lt;have h5:Wk.heap.size≤Xc:=hxc;omega⟩
     have HGc:=Hd.mk (HGp.out.row Xc h.cells.length)
     have HSd:=Hd.mk (HSc.out.trans hs2)
     generalize ρp.put Xc (42,h.cells.length)=ρc at *
     have hnc:=(HRNp.out.step HSd.out (fun _ _ h=>h)).newCell ⟨0,fr,some b⟩ (some ⟨Xc,0,none⟩) cpc (some ⟨bb,o,none⟩) hO2 ⟨bb,o,rfl,(HAT.out.mono HMN.out).step HSd.out⟩ (I64_lit 0 (by decide) (by decide)) HFMp.out.ok HFMp.out.sz
     have HNC:=Hd.mk hnc
     have hbc:=HSd.out.blk' HBp.out HTp.out (fun h=>h)
     have HBc:=Hd.mk hbc
     have HTc:=Hd.mk (HSd.out.tag HBp.out.lt HTp.out)
     clear q0 q1 gg0 gg1 lss
     have q0:Wc.cell? ⟨w.heap.size,0,none⟩=some (.int .i64 0):=hbc.cell (i:=0) rfl
     have q1:Wc.cell? ⟨w.heap.size,1,none⟩=some (.pointer none):=hbc.cell (i:=1) rfl
     have gg0:=hbc.free 0
     have gg1:=hbc.free 1
     have lss:=hbc.lt
     clear hOc hO2 hs2 hnc hbc hxc
     go_wp2_with fail
     try clear hHeld
     refine tkK hK (by first|exact keepQ_of HSd.out|exact fun a h1 h2=>(World.cell?_alloc_lt _ _ _ (Nat.lt_of_lt_of_le h1 HSd.out.size)).trans (keepQ_of (S:=w.heap.size) HSd.out a h1 h2)|exact fun a h1 h2=>(World.cell?_alloc_lt _ _ _ (by simpa using Nat.lt_of_lt_of_le h1 HSd.out.size)).trans (((cellSetNe h2 1 _).trans (cellSetNe h2 0 _)).trans (keepQ_of (S:=w.heap.size) HSd.out a h1 h2))) (fun hHeld=>?_)
     clear hK K
     refine tkP 7 ?_
     refine tkR 8 (fun K hK=>?_)
     go_simp
     try clear hHeld
     refine tkK hK (by first|exact keepQ_of HSd.out|exact fun a h1 h2=>(World.cell?_alloc_lt _ _ _ (Nat.lt_of_lt_of_le h1 HSd.out.size)).trans (keepQ_of (S:=w.heap.size) HSd.out a h1 h2)|exact fun a h1 h2=>(World.cell?_alloc_lt _ _ _ (by simpa using Nat.lt_of_lt_of_le h1 HSd.out.size)).trans (((cellSetNe h2 1 _).trans (cellSetNe h2 0 _)).trans (keepQ_of (S:=w.heap.size) HSd.out a h1 h2))) (fun hHeld=>?_)
     clear hK K
     refine tkP 9 ?_
     refine tkR 10 (fun K hK=>?_)
     go_simp
     try clear hHeld
     refine tkK hK (by first|exact keepQ_of HSd.out|exact fun a h1 h2=>(World.cell?_alloc_lt _ _ _ (Nat.lt_of_lt_of_le h1 HSd.out.size)).trans (keepQ_of (S:=w.heap.size) HSd.out a h1 h2)|exact fun a h1 h2=>(World.cell?_alloc_lt _ _ _ (by simpa using Nat.lt_of_lt_of_le h1 HSd.out.size)).trans (((cellSetNe h2 1 _).trans (cellSetNe h2 0 _)).trans (keepQ_of (S:=w.heap.size) HSd.out a h1 h2))) (fun hHeld=>?_)
     clear hK K
     refine tkP 11 ?_
     refine wpAnyH_done (by kernel_rfl) ?_ _
     try clear hHeld
     clear e0 e10 e11 e18 lS
     go_wp2
     refine bodyPost_ret (results_cell2 rfl _ _ w.heap.size [.int .i64 0, .pointer (some ⟨Wc.heap.size,0,none⟩)] rfl ?_ Try.underlying64 rfl) rfl ?_
     ·exact ((HBc.out.setCell 0 _).setCell 1 _).alloc _
     ·have l3:=HBc.out.lt
      rw [←World.setCell_alloc_past _ _ _ _ (by simpa using l3), ←World.setCell_alloc_past _ _ _ _ l3]
      refine BlkP.fin (B':=[Wc.heap.size]) ((HSp.out.trans (HSd.out.mono (fun _ h=>h.elim))).trans (HNC.out.2.mono (fun _ h=>h.elim))) (Nat.le_refl _) ((Ghost.put_ne _ _ (by omega)).trans HTc.out) hGS.out HNC.out.1 (((HFMp.out.step HSd.out (fun h=>h)).step HNC.out.2 (fun h=>h)).app _) ⟨?_,rfl,newVOk HLN.out⟩ (HGc.out.cell _ _)
      rw [newVal HLN.out]
    iterate 2 · (
     have HOP:=Hd.mk hop
     have htt:=HTT.out.2 (by omega)
     subst htt
     clear hop
     have HKK:=Hd.mk hK
     clear hK
     have HRES:=Hd.mk hres
     clear hres
     rw [HOP.out] at e0
     have HARG:Hd (FrR Wk ρp B g c ag):=⟨⟨HOp.out,HGT.out,HLg.out,HVOK.out,by have:=HAL.out;have:=HAGL.out;omega⟩⟩
     have hcall:=call_any p n N szs fuel R K HKK.out Wk ρp h B HRNp.out HFRp.out HGp.out m s sb so HSTp.out g c ag HARG.out a' h' HRES.out
     have HCALL2:=Hd.mk hcall
     clear hcall
     go_wp2_with fail
     refine HCALL2.out.mono ?_
     rintro e W3 ⟨ρ3,B3,x3,s3,rfl,ha3,hr3,hs3,hg3⟩
     have HA3:=Hd.mk ha3
     have HR3:=Hd.mk hr3
     have HS3:=Hd.mk (HSp.out.trans (hs3.mono (T':=RunT G) (fun t h=>Or.inl h)))
     have HG3:=Hd.mk hg3
     have HF3:=Hd.mk ((HFMp.out.step hs3 (fun h=>by rcases h with h|h|h <;> cases h)).app B3)
     have hb3:=hs3.blk' HBp.out HTp.out (fun h=>by rcases h with h|h|h <;> cases h)
     have HT3:=Hd.mk (hs3.tag HBp.out.lt HTp.out)
     have HB3:=Hd.mk hb3
     clear q0 q1 gg0 gg1 lss e0 e10 e11 e18 lS
     have q0:W3.cell? ⟨w.heap.size,0,none⟩=some (.int .i64 0):=hb3.cell (i:=0) rfl
     have q1:W3.cell? ⟨w.heap.size,1,none⟩=some (.pointer none):=hb3.cell (i:=1) rfl
     have g0:=hb3.free 0
     have g1:=hb3.free 1
     have l3:=hb3.lt
     obtain ⟨u0,u1,rfl⟩:=ha3.two
     clear ha3 hr3 hs3 hg3 hb3 HCALL2
     go_wp2
     refine bodyPost_ret (results_cell2 rfl _ _ w.heap.size [.int .i64 u0, .pointer u1] rfl ?_ Try.underlying64 rfl) rfl ?_
     ·exact (HB3.out.setCell 0 _).setCell 1 _
     ·exact BlkP.fin HS3.out (Nat.le_refl _) HT3.out hGS.out HR3.out HF3.out HA3.out HG3.out)
    iterate 4 · (
     have HOP:=Hd.mk hop
     have htt:=HTT.out.2 (by omega)
     subst htt
     clear hop
     have HRES:=Hd.mk hres
     clear hres
     rw [HOP.out] at e0
     have HARG:Hd (FrR Wk ρp B g c ag):=⟨⟨HOp.out,HGT.out,HLg.out,HVOK.out,by have:=HAL.out;have:=HAGL.out;omega⟩⟩
     have hcall:=array_any p n N szs fuel R Wk ρp h B HRNp.out HFRp.out HGp.out s.op (by have:=HOP.out;omega) ag g c HARG.out a' h' HRES.out
     rw [HOP.out] at hcall
     have HCALL2:=Hd.mk hcall
     clear hcall
     go_wp2_with fail
     refine HCALL2.out.mono ?_
     rintro e W3 ⟨ρ3,B3,x3,s3,rfl,ha3,hr3,hs3,hg3⟩
     have HA3:=Hd.mk ha3
     have HR3:=Hd.mk hr3
     have HS3:=Hd.mk (HSp.out.trans (hs3.mono (T':=RunT G) (fun t h=>Or.inl h)))
     have HG3:=Hd.mk hg3
     have HF3:=Hd.mk ((HFMp.out.step hs3 (fun h=>by rcases h with h|h|h <;> cases h)).app B3)
     have hb3:=hs3.blk' HBp.out HTp.out (fun h=>by rcases h with h|h|h <;> cases h)
     have HT3:=Hd.mk (hs3.tag HBp.out.lt HTp.out)
     have HB3:=Hd.mk hb3
     clear q0 q1 gg0 gg1 lss e0 e10 e11 e18 lS
     have q0:W3.cell? ⟨w.heap.size,0,none⟩=some (.int .i64 0):=hb3.cell (i:=0) rfl
     have q1:W3.cell? ⟨w.heap.size,1,none⟩=some (.pointer none):=hb3.cell (i:=1) rfl
     have g0:=hb3.free 0
     have g1:=hb3.free 1
     have l3:=hb3.lt
     obtain ⟨u0,u1,rfl⟩:=ha3.two
     clear ha3 hr3 hs3 hg3 hb3 HCALL2
     go_wp2
     refine bodyPost_ret (results_cell2 rfl _ _ w.heap.size [.int .i64 u0, .pointer u1] rfl ?_ Try.underlying64 rfl) rfl ?_
     ·exact (HB3.out.setCell 0 _).setCell 1 _
     ·exact BlkP.fin HS3.out (Nat.le_refl _) HT3.out hGS.out HR3.out HF3.out HA3.out HG3.out)
    ·have HOP:=Hd.mk hop
     have htt:=HTT.out.2 (by omega)
     subst htt
     clear hop
     have HG0:=Hd.mk hg0
     clear hg0
     rw [HOP.out] at e0
     have HARG:Hd (FrR Wk ρp B g c ag):=⟨⟨HOp.out,HGT.out,HLg.out,HVOK.out,by have:=HAL.out;have:=HAGL.out;omega⟩⟩
     have hagN:0<ag.length:=(List.getElem?_eq_some_iff.1 HG0.out).1
     have hagl2:(0:Int)<ag.length:=by omega
     obtain ⟨c0,_,_,hva⟩:=HARG.out.cells (i:=0) (v:=a) HG0.out
     rw [Nat.zero_mul] at c0
     have HVA:=Hd.mk hva
     have lg:=HLg.out
     have n1:=HNG.out
     have n4:¬sb=w.heap.size:=ne_tag HSTp.out.tag HTp.out (by simp)
     clear hva
     go_wp2_with fail
     have HSc:=Hd.mk ((Step.refl (fun _=>False) Wk ρp).drew)
     go_region_held3 (fun wv=>∀ a:Addr,a.block<Wk.heap.size→¬a.block=w.heap.size→wv.cell? a=Wk.cell? a) (first|exact keepR_of HSc.out|exact fun a h1 h2=>World.cell?_alloc_lt _ _ _ h1|exact fun a h1 h2=>(cellSetNe h2 1 _).trans (cellSetNe h2 0 _)|exact fun a h1 h2=>(World.cell?_alloc_lt _ _ _ (by simpa using h1)).trans ((cellSetNe h2 1 _).trans (cellSetNe h2 0 _))) (skip)
     all_goals (
      go_wp2
      refine bodyPost_ret (results_cell2 rfl _ _ w.heap.size [.int .i64 0, .pointer none] rfl ?_ Try.underlying64 rfl) rfl ?_
      ·exact (((HBp.out.setCell 0 _).setCell 1 _).alloc _).drew
      ·have l3:=HBp.out.lt
       refine BlkP.drew ?_
       rw [←World.setCell_alloc_past _ _ _ _ (by simpa using l3), ←World.setCell_alloc_past _ _ _ _ l3]
       have hsa:=(Step.refl (fun _=>False) Wk ρp).alloc (.cells #[.int .i64 s.code, .int .i64 a.word] 69)
       exact BlkP.fin (B':=[]) (HSp.out.trans (hsa.mono (fun _ h=>h.elim))) (Nat.le_refl _) HTp.out hGS.out (by rw [List.append_nil];exact HRNp.out.step hsa (fun _ _ h=>h)) (by rw [List.append_nil];exact HFMp.out.step hsa (fun h=>h)) ⟨Wk.heap.size,rfl,rfl,HFRp.out _ (Nat.le_refl _),Blk.new' _ _ _,HI34.out.2,HVA.out.1⟩ HGp.out)
    ·have HOP:=Hd.mk hop
     have htt:=HTT.out.2 (by omega)
     subst htt
     clear hop
     have HG0:=Hd.mk hg0
     have HLO:=Hd.mk hlo
     clear hg0 hlo
     rw [HOP.out] at e0
     have HARG:Hd (FrR Wk ρp B g c ag):=⟨⟨HOp.out,HGT.out,HLg.out,HVOK.out,by have:=HAL.out;have:=HAGL.out;omega⟩⟩
     have hagN:0<ag.length:=(List.getElem?_eq_some_iff.1 HG0.out).1
     have hagl2:(0:Int)<ag.length:=by omega
     obtain ⟨c0,_,_,_⟩:=HARG.out.cells (i:=0) (v:=a) HG0.out
     rw [Nat.zero_mul] at c0
     have lg:=HLg.out
     obtain ⟨_,_,_,_,A5,c5,_,_,_,_,r7,_,_,hO,hRf⟩:=HRNp.out.form
     have rf:=hRf 7
     have rlt:=HRNp.out.lt
     have m1:¬ρp g=some (40,1):=by rw [HGT.out];simp
     have m2:¬g=R:=ne_tag HGT.out HRNp.out.tag (by simp)
     have hsx:=((Step.refl (fun _=>False) Wk ρp).drew).alloc (.cells #[.int .i64 a.word] 2)
     have HOX:=Hd.mk (hO.step hsx (fun h=>h))
     have HSX:=Hd.mk hsx
     have HNW:Hd (∀ j u,([.int .i64 a.word]:List Value)[j]? =some u→(Wk.drew.alloc (.cells #[.int .i64 a.word] 2)).cell? ((⟨Wk.heap.size,0,none⟩:Addr).add j)=some u):=⟨fun j u hu=>by
      have hadd:(⟨Wk.heap.size,0,none⟩:Addr).add j=⟨Wk.drew.heap.size,j,none⟩:=by unfold Addr.add;split <;> simp_all
      rw [hadd,(Blk.new Wk.drew [.int .i64 a.word] _).at,hu]⟩
     clear hsx
     clear hO hRf
     go_wp2_with fail
     refine wp_region_held_drew (S:=(fun wv=>∀ a:Addr,a.block<Wk.heap.size→¬ρp a.block=some (40,1)→¬a.block=R→wv.cell? a=Wk.cell? a)) (by kernel_rfl) ((fun _ _ _ _=>rfl)) (fun hHeld=>?_)
     refine tkP 0 ?_
     refine tkP 1 ?_
     refine tkP 2 ?_
     refine tkP 3 ?_
     refine tkP 5 ?_
     refine tkP 6 ?_
     refine tkP 7 ?_
     refine tkP 8 ?_
     refine wpAnyH_ready (rs:=[4,9]) (by kernel_rfl) (by simp) ?_
     refine AllReadyH.cons (by simp only [List.getElem?_toArray,List.getElem?_cons_succ,List.getElem?_cons_zero];rfl) (fun K hK=>?_) (AllReadyH.cons (by simp only [List.getElem?_toArray,List.getElem?_cons_succ,List.getElem?_cons_zero];rfl) (fun K hK=>?_) AllReadyH.nil)
     ·rw [if_pos (by rfl)]
      go_simp
      try clear hHeld
      refine tkK hK (by first|exact fun _ _ _ _=>rfl|exact fun a h1 _ _=>World.cell?_alloc_lt _ _ _ h1|exact fun a h1 h2 _=>World.cell?_of_block (HS5.out.block a.block h1 (fun t ht hT=>h2 (by rw [ht,hT])))|exact fun a h1 h2 h3=>(cellSetNe h3 7 _).trans (World.cell?_of_block (HS5.out.block a.block h1 (fun t ht hT=>h2 (by rw [ht,hT]))))) (fun hHeld=>?_)
      clear hK K
      refine tkR 9 (fun K hK=>?_)
      go_simp
      try clear hHeld
      refine tkK hK (by first|exact fun _ _ _ _=>rfl|exact fun a h1 _ _=>World.cell?_alloc_lt _ _ _ h1|exact fun a h1 h2 _=>World.cell?_of_block (HS5.out.block a.block h1 (fun t ht hT=>h2 (by rw [ht,hT])))|exact fun a h1 h2 h3=>(cellSetNe h3 7 _).trans (World.cell?_of_block (HS5.out.block a.block h1 (fun t ht hT=>h2 (by rw [ht,hT]))))) (fun hHeld=>?_)
      clear hK K
      refine tkR 10 (fun K hK=>?_)
      refine wp_append_ownS _ _ 27 rfl 2 _ 1 8 Try.underlying27 infoI64 rfl (by omega) ρp (40,1) _ _ _ rfl HOX.out ⟨Wk.heap.size,0,none⟩ 1 1 [.int .i64 a.word] rfl rfl HNW.out (by simp [Value.oneCell']) (by have:=HLO.out;unfold maxLen;omega) (by have:=HLO.out;omega) ?_
      intro v5 W5 ρ5 hO5 hS5
      obtain ⟨A6,c6,rfl,_⟩:=hO5.form
      have HS5:=Hd.mk ((HSX.out.mono (T':=(· =((40,1):Tag))) (fun _ h=>h.elim)).trans hS5)
      have HO5:=Hd.mk hO5
      obtain ⟨_,_,_,_,_,_,_,_,A5',c5',gB,_⟩:=HRNp.out.blk
      have gB5:=HS5.out.blk' gB HRNp.out.tag (by simp)
      have r75:W5.cell? ⟨R,7,none⟩=some (.slice A5' h.outs.length c5'):=gB5.cell (i:=7) rfl
      have rf5:=gB5.free 7
      clear hO5 hS5 gB gB5
      try clear hHeld
      refine tkK hK (by first|exact fun _ _ _ _=>rfl|exact fun a h1 _ _=>World.cell?_alloc_lt _ _ _ h1|exact fun a h1 h2 _=>World.cell?_of_block (HS5.out.block a.block h1 (fun t ht hT=>h2 (by rw [ht,hT])))|exact fun a h1 h2 h3=>(cellSetNe h3 7 _).trans (World.cell?_of_block (HS5.out.block a.block h1 (fun t ht hT=>h2 (by rw [ht,hT]))))) (fun hHeld=>?_)
      clear hK K
      refine tkP 11 ?_
      refine tkP 12 ?_
      refine tkR 13 (fun K hK=>?_)
      go_simp
      try clear hHeld
      refine tkK hK (by first|exact fun _ _ _ _=>rfl|exact fun a h1 _ _=>World.cell?_alloc_lt _ _ _ h1|exact fun a h1 h2 _=>World.cell?_of_block (HS5.out.block a.block h1 (fun t ht hT=>h2 (by rw [ht,hT])))|exact fun a h1 h2 h3=>(cellSetNe h3 7 _).trans (World.cell?_of_block (HS5.out.block a.block h1 (fun t ht hT=>h2 (by rw [ht,hT]))))) (fun hHeld=>?_)
      clear hK K
      refine wpAnyH_done (by kernel_rfl) ?_ _
      try clear hHeld
      clear e0 e10 e11 e18 lS q0 q1 gg0 gg1 lss r7 rlt m1 m2 c0 lg rf r75 rf5
      obtain ⟨ρ6,hG6,hR6,hS6⟩:=HRNp.out.newOuts HGp.out HFRp.out HO5.out HS5.out
      have HG6:=Hd.mk hG6
      have HR6:=Hd.mk hR6
      have HS6:=Hd.mk (HSp.out.trans (hS6.mono (T':=RunT G) (fun t h=>Or.inl h)))
      have hb5:=hS6.blk' HBp.out HTp.out (fun h=>by rcases h with h|h|h <;> cases h)
      have HB5:=Hd.mk hb5
      have HT5:=Hd.mk (hS6.tag HBp.out.lt HTp.out)
      have HF5:=Hd.mk (HFMp.out.step hS6 (fun h=>by rcases h with h|h|h <;> cases h))
      clear hG6 hR6 hS6 HS5 HO5 HOX HSX HNW
      generalize W5.setCell ⟨R,7,none⟩ (.slice A6 (h.outs.length+1) c6)=W6 at *
      have q0:W6.cell? ⟨w.heap.size,0,none⟩=some (.int .i64 0):=hb5.cell (i:=0) rfl
      have q1:W6.cell? ⟨w.heap.size,1,none⟩=some (.pointer none):=hb5.cell (i:=1) rfl
      have gg0:=hb5.free 0
      have gg1:=hb5.free 1
      have lss:=hb5.lt
      clear hb5
      go_wp2
      refine bodyPost_ret (results_cell2 rfl _ _ w.heap.size [.int .i64 0, .pointer none] rfl ?_ Try.underlying64 rfl) rfl ?_
      ·exact (HB5.out.setCell 0 _).setCell 1 _
      ·exact BlkP.fin (B':=[]) HS6.out (Nat.le_refl _) HT5.out hGS.out (by rw [List.append_nil];exact HR6.out) (by rw [List.append_nil];exact HF5.out) ⟨by first|rfl|(rw [List.append_nil];rfl),rfl,nilVOk _ 0 (I64_lit 0 (by decide) (by decide))⟩ HG6.out
     ·rw [if_pos (by rfl)]
      go_simp
      try clear hHeld
      refine tkK hK (by first|exact fun _ _ _ _=>rfl|exact fun a h1 _ _=>World.cell?_alloc_lt _ _ _ h1|exact fun a h1 h2 _=>World.cell?_of_block (HS5.out.block a.block h1 (fun t ht hT=>h2 (by rw [ht,hT])))|exact fun a h1 h2 h3=>(cellSetNe h3 7 _).trans (World.cell?_of_block (HS5.out.block a.block h1 (fun t ht hT=>h2 (by rw [ht,hT]))))) (fun hHeld=>?_)
      clear hK K
      refine tkR 4 (fun K hK=>?_)
      go_simp
      try clear hHeld
      refine tkK hK (by first|exact fun _ _ _ _=>rfl|exact fun a h1 _ _=>World.cell?_alloc_lt _ _ _ h1|exact fun a h1 h2 _=>World.cell?_of_block (HS5.out.block a.block h1 (fun t ht hT=>h2 (by rw [ht,hT])))|exact fun a h1 h2 h3=>(cellSetNe h3 7 _).trans (World.cell?_of_block (HS5.out.block a.block h1 (fun t ht hT=>h2 (by rw [ht,hT]))))) (fun hHeld=>?_)
      clear hK K
      refine tkR 10 (fun K hK=>?_)
      refine wp_append_ownS _ _ 27 rfl 2 _ 1 8 Try.underlying27 infoI64 rfl (by omega) ρp (40,1) _ _ _ rfl HOX.out ⟨Wk.heap.size,0,none⟩ 1 1 [.int .i64 a.word] rfl rfl HNW.out (by simp [Value.oneCell']) (by have:=HLO.out;unfold maxLen;omega) (by have:=HLO.out;omega) ?_
      intro v5 W5 ρ5 hO5 hS5
      obtain ⟨A6,c6,rfl,_⟩:=hO5.form
      have HS5:=Hd.mk ((HSX.out.mono (T':=(· =((40,1):Tag))) (fun _ h=>h.elim)).trans hS5)
      have HO5:=Hd.mk hO5
      obtain ⟨_,_,_,_,_,_,_,_,A5',c5',gB,_⟩:=HRNp.out.blk
      have gB5:=HS5.out.blk' gB HRNp.out.tag (by simp)
      have r75:W5.cell? ⟨R,7,none⟩=some (.slice A5' h.outs.length c5'):=gB5.cell (i:=7) rfl
      have rf5:=gB5.free 7
      clear hO5 hS5 gB gB5
      try clear hHeld
      refine tkK hK (by first|exact fun _ _ _ _=>rfl|exact fun a h1 _ _=>World.cell?_alloc_lt _ _ _ h1|exact fun a h1 h2 _=>World.cell?_of_block (HS5.out.block a.block h1 (fun t ht hT=>h2 (by rw [ht,hT])))|exact fun a h1 h2 h3=>(cellSetNe h3 7 _).trans (World.cell?_of_block (HS5.out.block a.block h1 (fun t ht hT=>h2 (by rw [ht,hT]))))) (fun hHeld=>?_)
      clear hK K
      refine tkP 11 ?_
      refine tkP 12 ?_
      refine tkR 13 (fun K hK=>?_)
      go_simp
      try clear hHeld
      refine tkK hK (by first|exact fun _ _ _ _=>rfl|exact fun a h1 _ _=>World.cell?_alloc_lt _ _ _ h1|exact fun a h1 h2 _=>World.cell?_of_block (HS5.out.block a.block h1 (fun t ht hT=>h2 (by rw [ht,hT])))|exact fun a h1 h2 h3=>(cellSetNe h3 7 _).trans (World.cell?_of_block (HS5.out.block a.block h1 (fun t ht hT=>h2 (by rw [ht,hT]))))) (fun hHeld=>?_)
      clear hK K
      refine wpAnyH_done (by kernel_rfl) ?_ _
      try clear hHeld
      clear e0 e10 e11 e18 lS q0 q1 gg0 gg1 lss r7 rlt m1 m2 c0 lg rf r75 rf5
      obtain ⟨ρ6,hG6,hR6,hS6⟩:=HRNp.out.newOuts HGp.out HFRp.out HO5.out HS5.out
      have HG6:=Hd.mk hG6
      have HR6:=Hd.mk hR6
      have HS6:=Hd.mk (HSp.out.trans (hS6.mono (T':=RunT G) (fun t h=>Or.inl h)))
      have hb5:=hS6.blk' HBp.out HTp.out (fun h=>by rcases h with h|h|h <;> cases h)
      have HB5:=Hd.mk hb5
      have HT5:=Hd.mk (hS6.tag HBp.out.lt HTp.out)
      have HF5:=Hd.mk (HFMp.out.step hS6 (fun h=>by rcases h with h|h|h <;> cases h))
      clear hG6 hR6 hS6 HS5 HO5 HOX HSX HNW
      generalize W5.setCell ⟨R,7,none⟩ (.slice A6 (h.outs.length+1) c6)=W6 at *
      have q0:W6.cell? ⟨w.heap.size,0,none⟩=some (.int .i64 0):=hb5.cell (i:=0) rfl
      have q1:W6.cell? ⟨w.heap.size,1,none⟩=some (.pointer none):=hb5.cell (i:=1) rfl
      have gg0:=hb5.free 0
      have gg1:=hb5.free 1
      have lss:=hb5.lt
      clear hb5
      go_wp2
      refine bodyPost_ret (results_cell2 rfl _ _ w.heap.size [.int .i64 0, .pointer none] rfl ?_ Try.underlying64 rfl) rfl ?_
      ·exact (HB5.out.setCell 0 _).setCell 1 _
      ·exact BlkP.fin (B':=[]) HS6.out (Nat.le_refl _) HT5.out hGS.out (by rw [List.append_nil];exact HR6.out) (by rw [List.append_nil];exact HF5.out) ⟨by first|rfl|(rw [List.append_nil];rfl),rfl,nilVOk _ 0 (I64_lit 0 (by decide) (by decide))⟩ HG6.out
    iterate 7 · (
     have HOP:=Hd.mk hop
     have htt:=HTT.out.2 (by omega)
     subst htt
     clear hop
     have HG0:=Hd.mk hg0
     have HGG1:=Hd.mk hg1
     clear hg0 hg1
     rw [HOP.out] at e0
     have HARG:Hd (FrR Wk ρp B g c ag):=⟨⟨HOp.out,HGT.out,HLg.out,HVOK.out,by have:=HAL.out;have:=HAGL.out;omega⟩⟩
     have hagN:1<ag.length:=(List.getElem?_eq_some_iff.1 HGG1.out).1
     have hagN0:0<ag.length:=by omega
     have hagl2:(0:Int)<ag.length:=by omega
     have hagl3:(1:Int)<ag.length:=by omega
     obtain ⟨c0,_,_,hva⟩:=HARG.out.cells (i:=0) (v:=a) HG0.out
     obtain ⟨c2,_,_,_⟩:=HARG.out.cells (i:=1) (v:=b) HGG1.out
     rw [Nat.zero_mul] at c0
     rw [Nat.one_mul] at c2
     have HVA:=Hd.mk hva
     have lg:=HLg.out
     have n1:=HNG.out
     have n4:¬sb=w.heap.size:=ne_tag HSTp.out.tag HTp.out (by simp)
     clear hva q0 q1 gg0 gg1 lss
     go_wp2_with fail
     have HSc:=Hd.mk ((Step.refl (fun _=>False) Wk ρp).drew)
     refine wp_region_held_drew (S:=(fun wv=>∀ a:Addr,a.block<Wk.heap.size→¬a.block=w.heap.size→wv.cell? a=Wk.cell? a)) (by kernel_rfl) (keepR_of HSc.out) (fun hHeld=>?_)
     refine tkP 0 ?_
     refine tkP 1 ?_
     refine tkP 2 ?_
     refine tkP 3 ?_
     refine tkP 4 ?_
     refine tkP 5 ?_
     refine tkP 6 ?_
     refine tkP 7 ?_
     refine tkP 8 ?_
     refine tkP 9 ?_
     refine tkP 10 ?_
     refine tkP 11 ?_
     refine tkR 12 (fun K hK=>?_)
     go_simp
     go_at_call 48
     have hreck:=reckon_any Wk.drew ρp B s.op a.word b.word HVA.out.1 (HSc.out.fresh HFRp.out)
     rw [HOP.out] at hreck
     refine hreck.mono ?_
     clear hreck
     rintro e W3 ⟨x3,s3,rfl,ha3,hs3⟩
     have HA3:=Hd.mk ha3
     have HSc:=Hd.mk (HSc.out.trans hs3)
     have HB3:=Hd.mk (HSc.out.blk' HBp.out HTp.out (fun h=>h))
     have q0:W3.cell? ⟨w.heap.size,0,none⟩=some (.int .i64 0):=HB3.out.cell (i:=0) rfl
     have q1:W3.cell? ⟨w.heap.size,1,none⟩=some (.pointer none):=HB3.out.cell (i:=1) rfl
     have gx0:=HB3.out.free 0
     have gx1:=HB3.out.free 1
     have l3:=HB3.out.lt
     obtain ⟨u0,u1,rfl⟩:=ha3.two
     clear ha3 hs3
     go_wp2_with fail
     try clear hHeld
     refine tkK hK (by first|exact keepR_of HSc.out|exact fun a h1 h2=>((cellSetNe h2 1 _).trans (cellSetNe h2 0 _)).trans (keepR_of (S:=w.heap.size) HSc.out a h1 h2)) (fun hHeld=>?_)
     clear hK K
     refine tkP 13 ?_
     refine tkP 14 ?_
     refine tkR 15 (fun K hK=>?_)
     go_simp
     try clear hHeld
     refine tkK hK (by first|exact keepR_of HSc.out|exact fun a h1 h2=>((cellSetNe h2 1 _).trans (cellSetNe h2 0 _)).trans (keepR_of (S:=w.heap.size) HSc.out a h1 h2)) (fun hHeld=>?_)
     clear hK K
     refine tkP 16 ?_
     refine wpAnyH_done (by kernel_rfl) ?_ _
     try clear hHeld
     clear e0 e10 e11 e18 lS c0 c2 lg n1 n4
     go_wp2
     refine bodyPost_ret (results_cell2 rfl _ _ w.heap.size [.int .i64 u0, .pointer u1] rfl ?_ Try.underlying64 rfl) rfl ?_
     ·exact (HB3.out.setCell 0 _).setCell 1 _
     ·exact BlkP.fin (B':=[]) (HSp.out.trans (HSc.out.mono (fun _ h=>h.elim))) (Nat.le_refl _) (HSc.out.tag HBp.out.lt HTp.out) hGS.out (by rw [List.append_nil];exact HRNp.out.step HSc.out (fun _ _ h=>h)) (by rw [List.append_nil];exact HFMp.out.step HSc.out (fun h=>h)) (by rw [List.append_nil,HOP.out];exact HA3.out) HGp.out)
theorem step_any (K:Ctx) (hK:CtxC p n N szs fuel R K) (hmN:m≤N) (hQ:∀ b,b ∈ s.blocks→BlkQ p n N szs fuel R K b) (a':Ans) (fr':Fr) (h':Hp) (hres:stR K s fr h=some (a',fr',h')) :
 Calls Try.prog 38 #[.pointer (some ⟨R,0,none⟩), .pointer (some ⟨sb,so,none⟩), .slice (some ⟨G,0,none⟩) fr.length gc] w (BlkP p n N szs fuel R w ρ B G gc a' fr' h'):=by
 obtain ⟨ag,hco,⟨hop,hc⟩|⟨hno,hf,hs⟩⟩:=stR_parts hres
 ·exact step_all p n N szs fuel R w ρ h B hr hfr hG m s sb so hst G gc fr hF ag hco K hK hmN a' fr' h' (.inl ⟨hop,hc,hQ⟩)
 ·exact step_all p n N szs fuel R w ρ h B hr hfr hG m s sb so hst G gc fr hF ag hco K hK hmN a' fr' h' (.inr ⟨Eq.symm hf,simp_or hK.fu hs⟩)
end
end Go.Proofs.Ytadffbgbndibpaa
