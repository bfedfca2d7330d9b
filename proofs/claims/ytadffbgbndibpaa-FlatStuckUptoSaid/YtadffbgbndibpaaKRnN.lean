/- RnN: lemmas and walks of the claim. -/
import Derived.Test.YtadffbgbndibpaaKRnM
set_option linter.unusedVariables false
set_option linter.unusedSimpArgs false
set_option maxHeartbeats 16000000
set_option maxRecDepth 100000
namespace Go.Proofs.Ytadffbgbndibpaa
open Go Go.RowKit
def BlkP (p:Pg) (n N:Nat) (szs:List Int) (fuel:Int) (R:Nat) (w:World) (ρ:Ghost) (B:List Nat) (G gc:Nat) (a:Ans) (fr':Fr) (h':Hp) (e:Ending) (w':World):Prop :=
 ∃ ρ' B' x s,e= .returned (.tuple #[x, .pointer s])∧AnsR w' ρ' (B++B') a x s∧RnR p n N szs fuel R w' ρ' h' (B++B')∧FrR w' ρ' (B++B') G gc fr'∧Step (RunT G) w ρ w' ρ'∧OkG ρ'
def BlkQ (p:Pg) (n N:Nat) (szs:List Int) (fuel:Int) (R:Nat) (K:Ctx) (b:Bk):Prop:=∀ (w:World) (ρ:Ghost) (h:Hp) (B:List Nat) (G gc:Nat) (fr:Fr) (bb o m:Nat) (a':Ans) (fr':Fr) (h':Hp),
 RnR p n N szs fuel R w ρ h B→Fresh w ρ→OkG ρ→FrR w ρ B G gc fr→BkAt w ρ m b bb o→m≤N→blkR K b fr h=some (a',fr',h') →
 Calls Try.prog 30 #[.pointer (some ⟨R,0,none⟩), .pointer (some ⟨bb,o,none⟩), .slice (some ⟨G,0,none⟩) fr.length gc] w (BlkP p n N szs fuel R w ρ B G gc a' fr' h')
theorem nthR_get {K:Ctx} {pre:Bk→Fr→Option Fr} {fr:Fr} {h:Hp} {r:Ans × Fr × Hp}:∀ {l:List Bk} {i:Int},nthR K l i pre fr h=some r→∃ (k:Nat) (b:Bk),i=k∧l[k]? =some b∧(pre b fr).bind (fun fr=>blkR K b fr h)=some r
 |[],i,hr=>by rw [nthR] at hr;cases hr
 |b :: l,i,hr=>by
  rw [nthR] at hr
  by_cases h0:i=0
  ·rw [if_pos h0] at hr
   exact ⟨0,b,by omega,rfl,hr⟩
  ·rw [if_neg h0] at hr
   obtain ⟨k,c,h1,h2,h3⟩:=nthR_get hr
   exact ⟨k+1,c,by omega,by simpa using h2,h3⟩
theorem keepV_of {T:Tag→Prop} {W wv:World} {ρ ρ':Ghost} {X:Nat} (h:Step T W ρ wv ρ') (hT:¬T (43,X)):∀ a:Addr,a.block<W.heap.size→(ρ a.block=none∨ρ a.block=some (43,X))→wv.cell? a=W.cell? a :=
 fun a ha hn=>World.cell?_of_block (h.block a.block ha (fun t ht=>by
  rcases hn with hn|hn
  ·rw [hn] at ht;cases ht
  ·rw [hn] at ht;cases ht;exact hT))
theorem BlkP.fin {p:Pg} {n N:Nat} {szs:List Int} {fuel:Int} {R:Nat} {w W2:World} {ρ ρ2:Ghost} {B B':List Nat} {G gc:Nat} {a:Ans} {fr':Fr} {h':Hp} {S:Nat} {u0 u1:Value} {s:Option Addr} (h:Step (RunT G) w ρ W2 ρ2) (hS:w.heap.size≤S) (ht:ρ2 S=some (43,S)) (hGS:¬G=S) (hr:RnR p n N szs fuel R W2 ρ2 h' (B++B')) (hf:FrR W2 ρ2 (B++B') G gc fr') (ha:AnsR W2 ρ2 (B++B') a (.agg #[u0,u1]) s) (hg:OkG ρ2) :
 BlkP p n N szs fuel R w ρ B G gc a fr' h' (.returned (.tuple #[.agg #[u0,u1], .pointer s])) ((W2.setCell ⟨S,0,none⟩ u0).setCell ⟨S,1,none⟩ u1):=by
 have hs:Step (· =((43,S):Tag)) W2 ρ2 ((W2.setCell ⟨S,0,none⟩ u0).setCell ⟨S,1,none⟩ u1) ρ2 :=
  Step.setCell (T:=(· =((43,S):Tag))) (a:=⟨S,1,none⟩) (t:=(43,S)) (Step.setCell (T:=(· =((43,S):Tag))) (a:=⟨S,0,none⟩) (t:=(43,S)) (Step.refl _ W2 ρ2) ht rfl _) ht rfl _
 exact ⟨ρ2,B',_,_,rfl,ha.step hs,hr.step hs (fun t h1 h2=>by rw [h2] at h1;rcases h1 with h1|h1|h1 <;> cases h1),hf.step hs (fun h=>hGS (congrArg Prod.snd h)),(h.setCell_new (a:=⟨S,0,none⟩) hS _).setCell_new (a:=⟨S,1,none⟩) hS _,hg⟩
theorem FrR.set {W:World} {ρ:Ghost} {B:List Nat} {X cp:Nat} {fr:Fr} (hf:FrR W ρ B X cp fr) {i:Nat} {v:Vl} (hi:i<fr.length) (hv:VOk B.length v) :
 FrR ((W.setCell ⟨X,i*2,none⟩ (.int .i64 v.word)).setCell ⟨X,i*2+1,none⟩ (.pointer (ptrV B v))) ρ B X cp (fr.set i v)∧Step (· =((43,X):Tag)) W ρ ((W.setCell ⟨X,i*2,none⟩ (.int .i64 v.word)).setCell ⟨X,i*2+1,none⟩ (.pointer (ptrV B v))) ρ :=
 HO4fr W ρ B X cp fr i v hf.own hf.tag hf.lt hf.ok hf.sz hi hv
theorem setI_get {fr q:Fr} {x:Int} {v:Vl} (h:setI fr x v=some q):∃ i:Nat,x=i∧i<fr.length∧q=fr.set i v:=by
 unfold setI at h
 split at h
 ·rename_i hpos
  obtain ⟨ii,hii⟩:=Int.eq_ofNat_of_zero_le hpos.1
  rw [hii,Int.toNat_natCast] at h
  cases h
  exact ⟨ii,hii,by have:=hpos.2;omega,rfl⟩
 ·cases h
theorem atI_get {fr:Fr} {x:Int} {v:Vl} (h:atI fr x=some v):∃ i:Nat,x=i∧i<fr.length∧fr[i]? =some v:=by
 unfold atI at h
 split at h
 ·cases h
 ·rename_i hneg
  obtain ⟨ii,hii⟩:=Int.eq_ofNat_of_zero_le (show 0≤x by omega)
  rw [hii,Int.toNat_natCast] at h
  exact ⟨ii,hii,(List.getElem?_eq_some_iff.1 h).1,h⟩
theorem setI_len {fr q:Fr} {x:Int} {v:Vl} (h:setI fr x v=some q):q.length=fr.length:=by
 obtain ⟨i,_,_,rfl⟩:=setI_get h
 simp
theorem bindAll_len:∀ (l:List Int) (m:List Vl) {fr q:Fr},bindAll fr l m=some q→q.length=fr.length
 |[],_,fr,q,h=>by rw [bindAll] at h;cases h;rfl
 |x :: l,[],fr,q,h=>by rw [bindAll] at h;cases h
 |x :: l,v :: m,fr,q,h=>by
  rw [bindAll,Option.bind_eq_some_iff] at h
  obtain ⟨f1,h1,h2⟩:=h
  rw [bindAll_len l m h2,setI_len h1]
theorem bind0_len {v:Vl} {b:Bk} {fr q:Fr} (h:bind0 v b fr=some q):q.length=fr.length:=by
 unfold bind0 at h
 cases hb:b.bind with
 |nil=>rw [hb] at h;cases h
 |cons x l=>rw [hb] at h;exact setI_len h
-- A run leaves as many variables in a frame as there were.
mutual
theorem blkR_len (K:Ctx):∀ (b:Bk) {fr:Fr} {h:Hp} {a:Ans} {fr':Fr} {h':Hp},blkR K b fr h=some (a,fr',h')→fr'.length=fr.length
 |.mk c bi steps v,fr,h,a,fr',h',hr=>by
  rw [blkR,Option.bind_eq_some_iff] at hr
  obtain ⟨⟨g,f1,h1⟩,h2,h3⟩:=hr
  have ih:=stsR_len K steps h2
  cases g with
  |some g=>cases h3;exact ih
  |none =>
   simp only [Option.map_eq_some_iff] at h3
   obtain ⟨x,_,h4⟩:=h3
   cases h4
   exact ih
theorem stsR_len (K:Ctx):∀ (l:List St) {fr:Fr} {h:Hp} {g:Option Sg} {fr':Fr} {h':Hp},stsR K l fr h=some (g,fr',h')→fr'.length=fr.length
 |[],fr,h,g,fr',h',hr=>by rw [stsR] at hr;cases hr;rfl
 |s :: l,fr,h,g,fr',h',hr=>by
  rw [stsR,Option.bind_eq_some_iff] at hr
  obtain ⟨⟨a,f1,h1⟩,h2,h3⟩:=hr
  have ih:=stR_len K s h2
  cases a with
  |error g=>cases h3;exact ih
  |ok v =>
   simp only [Option.bind_eq_some_iff] at h3
   obtain ⟨f2,h4,h5⟩:=h3
   rw [stsR_len K l h5,setI_len h4,ih]
theorem stR_len (K:Ctx):∀ (s:St) {fr:Fr} {h:Hp} {a:Ans} {fr':Fr} {h':Hp},stR K s fr h=some (a,fr',h')→fr'.length=fr.length
 |.mk op out ty args int code types effs regs modes region keep blocks,fr,h,a,fr',h',hr=>by
  rw [stR,Option.bind_eq_some_iff] at hr
  obtain ⟨ag,_,hr⟩:=hr
  split at hr
  ·split at hr
   ·exact nthR_len K blocks _ (fun _ _ _ h=>by cases h;rfl) hr
   ·cases hr
  ·split at hr
   ·split at hr
    ·split at hr
     ·exact nthR_len K blocks _ (fun _ _ _ h=>by cases h;rfl) hr
     ·split at hr
      ·exact nthR_len K blocks _ (fun _ _ _ h=>bindAll_len _ _ h) hr
      ·cases hr
    ·cases hr
   ·split at hr
    ·rw [Option.bind_eq_some_iff] at hr
     obtain ⟨⟨a1,f1,h1⟩,h2,h3⟩:=hr
     have ih:=nthR_len K blocks _ (fun _ _ _ h=>by cases h;rfl) h2
     dsimp only at h3
     cases a1 with
     |ok v=>rw [nthR_len K blocks _ (fun _ _ _ h=>bind0_len h) h3,ih]
     |error g =>
      dsimp only at h3
      split at h3
      ·cases h3;exact ih
      ·rw [armsR_len K blocks h3,ih]
    ·simp only [Option.map_eq_some_iff] at hr
     obtain ⟨r,_,h3⟩:=hr
     cases h3
     rfl
theorem nthR_len (K:Ctx):∀ (l:List Bk) {pre:Bk→Fr→Option Fr} (i:Int) {fr:Fr} {h:Hp} {a:Ans} {fr':Fr} {h':Hp},(∀ b f q,pre b f=some q→q.length=f.length)→nthR K l i pre fr h=some (a,fr',h')→fr'.length=fr.length
 |[],pre,i,fr,h,a,fr',h',_,hr=>by rw [nthR] at hr;cases hr
 |b :: l,pre,i,fr,h,a,fr',h',hp,hr=>by
  rw [nthR] at hr
  split at hr
  ·rw [Option.bind_eq_some_iff] at hr
   obtain ⟨f1,h1,h2⟩:=hr
   rw [blkR_len K b h2,hp b fr f1 h1]
  ·exact nthR_len K l _ hp hr
theorem armsR_len (K:Ctx):∀ (l:List Bk) {n:Nat} {g:Sg} {fr:Fr} {h:Hp} {a:Ans} {fr':Fr} {h':Hp},armsR K n g l fr h=some (a,fr',h')→fr'.length=fr.length
 |[],n,g,fr,h,a,fr',h',hr=>by cases n <;> (rw [armsR] at hr;cases hr;rfl)
 |b :: l,0,g,fr,h,a,fr',h',hr=>by
  rw [armsR] at hr
  split at hr
  ·rw [Option.bind_eq_some_iff] at hr
   obtain ⟨f1,h1,h2⟩:=hr
   rw [blkR_len K b h2,bind0_len h1]
  ·exact armsR_len K l hr
 |b :: l,n+1,g,fr,h,a,fr',h',hr=>by
  rw [armsR] at hr
  exact armsR_len K l hr
end
end Go.Proofs.Ytadffbgbndibpaa
