/- RnU, RnV, RyC: lemmas and walks of the claim. -/
import Derived.Test.YtadffbgbndibpaaKRnT
import Derived.Test.YtadffbgbndibpaaKRyA
set_option linter.unusedVariables false
set_option linter.unusedSimpArgs false
set_option maxHeartbeats 16000000
set_option maxRecDepth 100000
namespace Go.Proofs.Ytadffbgbndibpaa
section
open Go Go.RowKit
def StQ (p:Pg) (n N:Nat) (szs:List Int) (fuel:Int) (R:Nat) (K:Ctx) (s:St):Prop:=∀ (w:World) (ρ:Ghost) (h:Hp) (B:List Nat) (G gc:Nat) (fr:Fr) (sb so m:Nat) (a':Ans) (fr':Fr) (h':Hp),
 RnR p n N szs fuel R w ρ h B→Fresh w ρ→OkG ρ→FrR w ρ B G gc fr→StAt w ρ m s sb so→m≤N→stR K s fr h=some (a',fr',h') →
 Calls Try.prog 38 #[.pointer (some ⟨R,0,none⟩), .pointer (some ⟨sb,so,none⟩), .slice (some ⟨G,0,none⟩) fr.length gc] w (BlkP p n N szs fuel R w ρ B G gc a' fr' h')
theorem blkR_parts {K:Ctx} {b:Bk} {fr:Fr} {h:Hp} {a':Ans} {fr':Fr} {h':Hp} (hres:blkR K b fr h=some (a',fr',h')):∃ q,stsR K b.steps fr h=some q∧((∃ g,q=(some g,fr',h')∧a'= .error g)∨(∃ x,q=(none,fr',h')∧atI fr' b.value=some x∧a'= .ok x)):=by
 obtain ⟨code,bind,steps,value⟩:=b
 rw [blkR,Option.bind_eq_some_iff] at hres
 obtain ⟨⟨g,f1,h1⟩,e1,e2⟩:=hres
 refine ⟨_,e1,?_⟩
 cases g with
 |some g=>cases e2;exact .inl ⟨g,rfl,rfl⟩
 |none =>
  simp only [Option.map_eq_some_iff] at e2
  obtain ⟨x,e3,e4⟩:=e2
  cases e4
  exact .inr ⟨x,rfl,e3,rfl⟩
theorem stsR_parts {K:Ctx} {l:List St} {k:Nat} {s:St} {fr:Fr} {h:Hp} {q:Option Sg × Fr × Hp} (hk:l[k]? =some s) (hres:stsR K (l.drop k) fr h=some q):∃ a f1 h1,stR K s fr h=some (a,f1,h1)∧((∃ g,a= .error g∧q=(some g,f1,h1))∨(∃ v f2,a= .ok v∧setI f1 s.out v=some f2∧stsR K (l.drop (k+1)) f2 h1=some q)):=by
 obtain ⟨hlt,he⟩:=List.getElem?_eq_some_iff.1 hk
 rw [List.drop_eq_getElem_cons hlt,he,stsR,Option.bind_eq_some_iff] at hres
 obtain ⟨⟨a,f1,h1⟩,e1,e2⟩:=hres
 refine ⟨a,f1,h1,e1,?_⟩
 cases a with
 |error g=>cases e2;exact .inl ⟨g,rfl,rfl⟩
 |ok v =>
  simp only [Option.bind_eq_some_iff] at e2
  obtain ⟨f2,e3,e4⟩:=e2
  exact .inr ⟨v,f2,rfl,e3,e4⟩
theorem block_of {p:Pg} {n N:Nat} {szs:List Int} {fuel:Int} {R:Nat} {K:Ctx} (b:Bk) (hQ:∀ s,s ∈ b.steps→StQ p n N szs fuel R K s):BlkQ p n N szs fuel R K b:=by
 intro w ρ h B G gc fr bb o m a' fr' h' hr hfr hG hF hbk hmN hres
 obtain ⟨q,hsts,hend⟩:=blkR_parts hres
 have HRN:=Hd.mk hr
 have HFR:=Hd.mk hfr
 have HG:=Hd.mk hG
 have HFM:=Hd.mk hF
 have HBK:=Hd.mk hbk
 have HQ:=Hd.mk hQ
 have HST:=Hd.mk hsts
 have HEND:=Hd.mk hend
 have HS1:=Hd.mk ((Step.refl (fun _=>False) w ρ).alloc_tag (.cells #[.int .i64 0, .pointer none] 64) (43,w.heap.size))
 have HB0:Hd (Blk (w.alloc (.cells #[.int .i64 0, .pointer none] 64)) w.heap.size 64 [.int .i64 0, .pointer none]):=⟨Blk.new' _ _ _⟩
 have HT0:Hd (ρ.put w.heap.size (43,w.heap.size) w.heap.size=some (43,w.heap.size)):=⟨Ghost.put_same _ _ _⟩
 have HG1:Hd (OkG (ρ.put w.heap.size (43,w.heap.size))):=⟨hG.frame _⟩
 obtain ⟨mm,B1,k1,B2,k2,hm,_,_,e2,e3,_,_,_,_⟩:=hbk.cells
 have lb:=hbk.lt
 have HMN:=Hd.mk hmN
 clear hr hfr hG hF hbk hQ hsts hend hres hmN hm e3
 go_enter Try.func30,Try.ntmps30
 go_wp2_with fail
 clear e2 lb
 have HFRa:=Hd.mk (HS1.out.fresh HFR.out)
 have HFMa:=Hd.mk (HFM.out.step HS1.out (fun h=>h))
 have HRNa:=Hd.mk (HRN.out.step HS1.out (fun _ _ h=>h))
 have HBKa:=Hd.mk (HBK.out.step HS1.out)
 have hGS:Hd (¬G=w.heap.size):=⟨by have:=HFM.out.lt;omega⟩
 generalize ρ.put w.heap.size (43,w.heap.size)=ρ1 at *
 generalize w.alloc (.cells #[.int .i64 0, .pointer none] 64)=W1 at *
 go_loopw [16] (fun vk wr=>∃ (k:Nat) (ρk:Ghost) (B':List Nat) (fk:Fr) (hk:Hp),vk= .int .i64 k∧k≤b.steps.length∧RnR p n N szs fuel R wr ρk hk (B++B')∧FrR wr ρk (B++B') G gc fk∧fk.length=fr.length∧Step (RunT G) W1 ρ1 wr ρk∧OkG ρk∧stsR K (b.steps.drop k) fk hk=some q) (fun v _=>b.steps.length-(intOf v).toNat)
 case atStart=>exact ⟨0,ρ1,[],fr,h,rfl,by omega,by rw [List.append_nil];exact HRNa.out,by rw [List.append_nil];exact HFMa.out,rfl,Step.refl _ _ _,HG1.out,by rw [List.drop_zero];exact HST.out⟩
 case round =>
  obtain ⟨k,ρk,B',fk,hk,rfl,hkl,hrk,hfk,hlen,hsk,hgk,hstk⟩:=hrel
  have HLEN:=Hd.mk hlen
  have HSTK:=Hd.mk hstk
  have HRK:=Hd.mk hrk
  have HFK:=Hd.mk hfk
  have HSK:=Hd.mk hsk
  have HGK:=Hd.mk hgk
  have HTK:=Hd.mk (hsk.tag HB0.out.lt HT0.out)
  have HBLK:=Hd.mk (hsk.blk' HB0.out HT0.out (fun h=>by rcases h with h|h;(rcases h with h|h|h <;> cases h);exact hGS.out (congrArg Prod.snd h).symm))
  have hbkk:=HBKa.out.step hsk
  have HBKK:=Hd.mk hbkk
  obtain ⟨mk,B1,k1,B2,k2,hm,_,_,e2,e3,_,hstsk,_,iv⟩:=hbkk.cells
  have HSTSK:=Hd.mk hstsk
  have lb:=hbkk.lt
  have HMK:Hd (mk≤N):=⟨by have:=HMN.out;omega⟩
  clear hlen hstk hrk hfk hsk hgk hbkk hstsk hm
  obtain ⟨Wk,rfl⟩:∃ W,W=wr:=⟨_,rfl⟩
  by_cases hlt:k<b.steps.length
  ·have hlti:(k:Int)<b.steps.length:=by omega
   have hkz:(0:Int)≤k:=by omega
   have hxx:=List.getElem?_eq_getElem hlt
   obtain ⟨a,f1,h1,hstp,hcase⟩:=stsR_parts hxx HSTK.out
   obtain ⟨sb,so,hB2,hat⟩:=HSTSK.out.place hxx
   subst hB2
   have HLM:Hd (b.steps.length≤9223372036854775807):=⟨by obtain ⟨_,_,h1,h2⟩:=SlR.form HSTSK.out;have h2:=h2;simp only [maxLen] at h2;omega⟩
   have hq:=HQ.out _ (List.getElem_mem hlt)
   generalize b.steps[k]=s at *
   have hcall:=hq Wk ρk hk (B++B') G gc fk sb (so+k*19) mk a f1 h1 HRK.out (HSK.out.fresh HFRa.out) HGK.out HFK.out hat HMK.out hstp
   have hflen:=stR_len K s hstp
   rw [HLEN.out] at hcall hflen
   have HCALL:=Hd.mk hcall
   have HFL:=Hd.mk hflen
   have HXX:=Hd.mk hxx
   have HAT:=Hd.mk hat
   have HCASE:=Hd.mk hcase
   have lsb:=hat.lt
   clear hcall hflen hat hcase hstp hq hxx
   go_wp2_with fail
   refine HCALL.out.mono ?_
   rintro e W3 ⟨ρ3,B3,x3,s3,rfl,ha3,hr3,hf3,hs3,hg3⟩
   have hsx:=(Step.refl (fun _=>False) W3 ρ3).alloc (.cells #[.int .i64 0, .pointer none] 64)
   rw [List.append_assoc] at hr3 hf3 ha3
   clear e2 e3 lb lsb
   rcases HCASE.out with ⟨g,rfl,rfl⟩|⟨v,f2,rfl,hse,hst2⟩
   ·obtain ⟨X,rfl,rfl,hsg⟩:=ha3
    have HSG:=Hd.mk hsg
    have HR3:=Hd.mk hr3
    have HF3:=Hd.mk hf3
    have HG3:=Hd.mk hg3
    have HSX:=Hd.mk hsx
    have HS3:=Hd.mk ((HS1.out.mono (T':=RunT G) (fun _ h=>h.elim)).trans (HSK.out.trans hs3))
    have hb3:=hs3.blk' HBLK.out HTK.out (fun h=>by rcases h with h|h;(rcases h with h|h|h <;> cases h);exact hGS.out (congrArg Prod.snd h).symm)
    have HT3:=Hd.mk (hs3.tag HBLK.out.lt HTK.out)
    have HB3:=Hd.mk hb3
    have q0:W3.cell? ⟨w.heap.size,0,none⟩=some (.int .i64 0):=hb3.cell (i:=0) rfl
    have q1:W3.cell? ⟨w.heap.size,1,none⟩=some (.pointer none):=hb3.cell (i:=1) rfl
    have gg0:=hb3.free 0
    have gg1:=hb3.free 1
    have lss:=hb3.lt
    have hee:∃ g',((some g,f1,h1):Option Sg × Fr × Hp)=(some g',fr',h')∧a'= .error g':=by
     rcases HEND.out with h|⟨x,he,_⟩
     ·exact h
     ·cases he
    obtain ⟨g',he,hae⟩:=hee
    cases he
    subst hae
    clear hsg hr3 hf3 hg3 hsx hs3 hb3 HCALL HCASE HEND
    go_wp2
    refine bodyPost_ret (results_cell2 rfl _ _ w.heap.size [.int .i64 0, .pointer none] rfl ?_ Try.underlying64 rfl) rfl ?_
    ·exact ((HB3.out.setCell 0 _).setCell 1 _).alloc _
    ·have l3:=HB3.out.lt
     rw [←World.setCell_alloc_past _ _ _ _ (by simpa using l3), ←World.setCell_alloc_past _ _ _ _ l3]
     exact BlkP.fin (a:= .error g) (B':=B'++B3) (HS3.out.trans (HSX.out.mono (fun _ h=>h.elim))) (Nat.le_refl _) (HSX.out.tag HB3.out.lt HT3.out) hGS.out (HR3.out.step HSX.out (fun _ _ h=>h)) (HF3.out.step HSX.out (fun h=>h)) ⟨X,rfl,rfl,HSG.out.step HSX.out⟩ HG3.out
   ·have hx3:x3= .agg #[.int .i64 v.word, .pointer (ptrV (B++(B'++B3)) v)]:=ha3.1
    obtain ⟨_,rfl,hvo⟩:=ha3
    subst hx3
    have HVO:=Hd.mk hvo
    have HSE:=Hd.mk hse
    have HST2:=Hd.mk hst2
    clear hvo hse hst2
    have HR3:=Hd.mk hr3
    have HF3:=Hd.mk hf3
    have HG3:=Hd.mk hg3
    have HSX:=Hd.mk hsx
    have HS3:=Hd.mk ((HS1.out.mono (T':=RunT G) (fun _ h=>h.elim)).trans (HSK.out.trans hs3))
    have hb3:=hs3.blk' HBLK.out HTK.out (fun h=>by rcases h with h|h;(rcases h with h|h|h <;> cases h);exact hGS.out (congrArg Prod.snd h).symm)
    have HT3:=Hd.mk (hs3.tag HBLK.out.lt HTK.out)
    have HB3:=Hd.mk hb3
    clear hr3 hf3 hg3 hsx hb3 HCALL HCASE
    go_wp2_with fail
    have hsy:=(Step.refl (fun _=>False) W3 ρ3).alloc (.cells #[.int .i64 v.word, .pointer (ptrV (B++(B'++B3)) v)] 64)
    have hnb:=Blk.new' W3 #[.int .i64 v.word, .pointer (ptrV (B++(B'++B3)) v)] 64
    have hXG:¬W3.heap.size=G:=by have:=HF3.out.lt;omega
    generalize W3.alloc (.cells #[.int .i64 v.word, .pointer (ptrV (B++(B'++B3)) v)] 64)=W4 at *
    generalize W3.heap.size=X4 at *
    have x0:W4.cell? ⟨X4,0,none⟩=some (.int .i64 v.word):=hnb.cell (i:=0) rfl
    have x1:W4.cell? ⟨X4,1,none⟩=some (.pointer (ptrV (B++(B'++B3)) v)):=hnb.cell (i:=1) rfl
    have lX:=hnb.lt
    have HS4:=Hd.mk (HS3.out.trans (hsy.mono (fun _ h=>h.elim)))
    have HR4:=Hd.mk (HR3.out.step hsy (fun _ _ h=>h))
    have HF4:=Hd.mk (HF3.out.step hsy (fun h=>h))
    have HS5:=Hd.mk ((HSK.out.trans hs3).trans (hsy.mono (T':=RunT G) (fun _ h=>h.elim)))
    obtain ⟨mk',B1',k1',B2',k2',_,_,_,e2,e3,_,hstsk,_,_⟩:=(HBKa.out.step HS5.out).cells
    have lb:=(HBKa.out.step HS5.out).lt
    obtain ⟨sb',so',hB2,hat⟩:=hstsk.place HXX.out
    subst hB2
    obtain ⟨_,_,_,_,_,e1,_,_,_,_,_,_,_,_,_,_⟩:=hat.cells
    have lsb:=hat.lt
    obtain ⟨i,hii,hil,hf2⟩:=setI_get HSE.out
    rw [hii] at e1
    have hilf:(i:Int)<fr.length:=by have:=HFL.out;omega
    have hiz:(0:Int)≤i:=by omega
    have hilN:i<fr.length:=by have:=HFL.out;omega
    obtain ⟨c0,c1,cf, -⟩:=HF4.out.cells (List.getElem?_eq_getElem hil)
    generalize f1[i]=old at c0 c1
    have cf0:=cf (i*2)
    have cf1:=cf (i*2+1)
    have lG:=HF4.out.lt
    have n1:¬bb=G:=ne_tag (HBKa.out.step HS5.out).tag HF4.out.tag (by simp)
    have n2:¬sb'=G:=ne_tag hat.tag HF4.out.tag (by simp)
    have hset:=HF4.out.set hil HVO.out
    rw [←hf2] at hset
    have HSET:=Hd.mk hset
    have HFE:=Hd.mk (And.intro hil hf2)
    clear hsy hnb hstsk hat hii hil hset cf hs3 hf2
    refine wp_region_held_drew (S:=(fun wv=>∀ a:Addr,¬a.block=G→wv.cell? a=W4.cell? a)) (by kernel_rfl) ((fun _ _=>rfl)) (fun hHeld=>?_)
    refine wpAnyH_take (i:=0) (oi:=?oi0) (v:=?v0) ?hi0 ?hs0 ?hf0 ?hr0 ?hQ0 ?hy0 ?hS0 ?h0
    case hi0=>simp only [List.getElem?_toArray,List.getElem?_cons_succ,List.getElem?_cons_zero];rfl
    case hs0=>kernel_rfl
    case hf0=>kernel_rfl
    case hr0=>kernel_rfl
    case hQ0=>exact fun _ _ _ h=>h
    case hy0 =>
     refine Or.inl ⟨by rfl,?_⟩
     intro w hSw
     (try dsimp only at hSw)
     go_simp
     try with_reducible rfl
    case hS0=>assumption
    try simp only [Act.put,List.setIfInBounds_toArray,List.set_cons_zero,List.set_cons_succ]
    refine wpAnyH_take (i:=1) (oi:=?oi1) (v:=?v1) ?hi1 ?hs1 ?hf1 ?hr1 ?hQ1 ?hy1 ?hS1 ?h1
    case hi1=>simp only [List.getElem?_toArray,List.getElem?_cons_succ,List.getElem?_cons_zero];rfl
    case hs1=>kernel_rfl
    case hf1=>kernel_rfl
    case hr1=>kernel_rfl
    case hQ1=>exact fun _ _ _ h=>h
    case hy1 =>
     refine Or.inl ⟨by rfl,?_⟩
     intro w hSw
     (try dsimp only at hSw)
     go_simp
     try with_reducible rfl
    case hS1=>assumption
    try simp only [Act.put,List.setIfInBounds_toArray,List.set_cons_zero,List.set_cons_succ]
    refine wpAnyH_take (i:=2) (oi:=?oi2) (v:=?v2) ?hi2 ?hs2 ?hf2 ?hr2 ?hQ2 ?hy2 ?hS2 ?h2
    case hi2=>simp only [List.getElem?_toArray,List.getElem?_cons_succ,List.getElem?_cons_zero];rfl
    case hs2=>kernel_rfl
    case hf2=>kernel_rfl
    case hr2=>kernel_rfl
    case hQ2=>exact fun _ _ _ h=>h
    case hy2 =>
     refine Or.inl ⟨by rfl,?_⟩
     intro w hSw
     (try dsimp only at hSw)
     go_simp
     try with_reducible rfl
    case hS2=>assumption
    try simp only [Act.put,List.setIfInBounds_toArray,List.set_cons_zero,List.set_cons_succ]
    refine wpAnyH_take (i:=3) (oi:=?oi3) (v:=?v3) ?hi3 ?hs3 ?hf3 ?hr3 ?hQ3 ?hy3 ?hS3 ?h3
    case hi3=>simp only [List.getElem?_toArray,List.getElem?_cons_succ,List.getElem?_cons_zero];rfl
    case hs3=>kernel_rfl
    case hf3=>kernel_rfl
    case hr3=>kernel_rfl
    case hQ3=>exact fun _ _ _ h=>h
    case hy3 =>
     refine Or.inl ⟨by rfl,?_⟩
     intro w hSw
     (try dsimp only at hSw)
     go_simp
     try with_reducible rfl
    case hS3=>assumption
    try simp only [Act.put,List.setIfInBounds_toArray,List.set_cons_zero,List.set_cons_succ]
    refine wpAnyH_take (i:=4) (oi:=?oi4) (v:=?v4) ?hi4 ?hs4 ?hf4 ?hr4 ?hQ4 ?hy4 ?hS4 ?h4
    case hi4=>simp only [List.getElem?_toArray,List.getElem?_cons_succ,List.getElem?_cons_zero];rfl
    case hs4=>kernel_rfl
    case hf4=>kernel_rfl
    case hr4=>kernel_rfl
    case hQ4=>exact fun _ _ _ h=>h
    case hy4 =>
     refine Or.inl ⟨by rfl,?_⟩
     intro w hSw
     (try dsimp only at hSw)
     go_simp
     try with_reducible rfl
    case hS4=>assumption
    try simp only [Act.put,List.setIfInBounds_toArray,List.set_cons_zero,List.set_cons_succ]
    refine wpAnyH_take (i:=5) (oi:=?oi5) (v:=?v5) ?hi5 ?hs5 ?hf5 ?hr5 ?hQ5 ?hy5 ?hS5 ?h5
    case hi5=>simp only [List.getElem?_toArray,List.getElem?_cons_succ,List.getElem?_cons_zero];rfl
    case hs5=>kernel_rfl
    case hf5=>kernel_rfl
    case hr5=>kernel_rfl
    case hQ5=>exact fun _ _ _ h=>h
    case hy5 =>
     refine Or.inl ⟨by rfl,?_⟩
     intro w hSw
     (try dsimp only at hSw)
     go_simp
     try with_reducible rfl
    case hS5=>assumption
    try simp only [Act.put,List.setIfInBounds_toArray,List.set_cons_zero,List.set_cons_succ]
    refine wpAnyH_take (i:=6) (oi:=?oi6) (v:=?v6) ?hi6 ?hs6 ?hf6 ?hr6 ?hQ6 ?hy6 ?hS6 ?h6
    case hi6=>simp only [List.getElem?_toArray,List.getElem?_cons_succ,List.getElem?_cons_zero];rfl
    case hs6=>kernel_rfl
    case hf6=>kernel_rfl
    case hr6=>kernel_rfl
    case hQ6=>exact fun _ _ _ h=>h
    case hy6 =>
     refine Or.inl ⟨by rfl,?_⟩
     intro w hSw
     (try dsimp only at hSw)
     go_simp
     try with_reducible rfl
    case hS6=>assumption
    try simp only [Act.put,List.setIfInBounds_toArray,List.set_cons_zero,List.set_cons_succ]
    refine wpAnyH_take (i:=7) (oi:=?oi7) (v:=?v7) ?hi7 ?hs7 ?hf7 ?hr7 ?hQ7 ?hy7 ?hS7 ?h7
    case hi7=>simp only [List.getElem?_toArray,List.getElem?_cons_succ,List.getElem?_cons_zero];rfl
    case hs7=>kernel_rfl
    case hf7=>kernel_rfl
    case hr7=>kernel_rfl
    case hQ7=>exact fun _ _ _ h=>h
    case hy7 =>
     refine Or.inl ⟨by rfl,?_⟩
     intro w hSw
     (try dsimp only at hSw)
     go_simp
     try with_reducible rfl
    case hS7=>assumption
    try simp only [Act.put,List.setIfInBounds_toArray,List.set_cons_zero,List.set_cons_succ]
    refine wpAnyH_take (i:=8) (oi:=?oi8) (v:=?v8) ?hi8 ?hs8 ?hf8 ?hr8 ?hQ8 ?hy8 ?hS8 ?h8
    case hi8=>simp only [List.getElem?_toArray,List.getElem?_cons_succ,List.getElem?_cons_zero];rfl
    case hs8=>kernel_rfl
    case hf8=>kernel_rfl
    case hr8=>kernel_rfl
    case hQ8=>exact fun _ _ _ h=>h
    case hy8 =>
     refine Or.inl ⟨by rfl,?_⟩
     intro w hSw
     (try dsimp only at hSw)
     go_simp
     try with_reducible rfl
    case hS8=>assumption
    try simp only [Act.put,List.setIfInBounds_toArray,List.set_cons_zero,List.set_cons_succ]
    refine wpAnyH_take (i:=9) (oi:=?oi9) (v:=?v9) ?hi9 ?hs9 ?hf9 ?hr9 ?hQ9 ?hy9 ?hS9 ?h9
    case hi9=>simp only [List.getElem?_toArray,List.getElem?_cons_succ,List.getElem?_cons_zero];rfl
    case hs9=>kernel_rfl
    case hf9=>kernel_rfl
    case hr9=>kernel_rfl
    case hQ9=>exact fun _ _ _ h=>h
    case hy9 =>
     refine Or.inl ⟨by rfl,?_⟩
     intro w hSw
     (try dsimp only at hSw)
     go_simp
     try with_reducible rfl
    case hS9=>assumption
    try simp only [Act.put,List.setIfInBounds_toArray,List.set_cons_zero,List.set_cons_succ]
    refine wpAnyH_take (i:=10) (oi:=?oi10) (v:=?v10) ?hi10 ?hs10 ?hf10 ?hr10 ?hQ10 ?hy10 ?hS10 ?h10
    case hi10=>simp only [List.getElem?_toArray,List.getElem?_cons_succ,List.getElem?_cons_zero];rfl
    case hs10=>kernel_rfl
    case hf10=>kernel_rfl
    case hr10=>kernel_rfl
    case hQ10=>exact fun _ _ _ h=>h
    case hy10 =>
     refine Or.inl ⟨by rfl,?_⟩
     intro w hSw
     (try dsimp only at hSw)
     go_simp
     try with_reducible rfl
    case hS10=>assumption
    try simp only [Act.put,List.setIfInBounds_toArray,List.set_cons_zero,List.set_cons_succ]
    refine wpAnyH_ready (rs:=[11]) (by kernel_rfl) (by simp) ?_
    refine AllReadyH.cons (by simp only [List.getElem?_toArray,List.getElem?_cons_succ,List.getElem?_cons_zero];rfl) (fun K hK=>?_) AllReadyH.nil
    rw [if_pos (by rfl)]
    go_simp
    try clear hHeld
    refine hK.out _ _ (fun a ha=>(cellSetNe ha _ _).trans (cellSetNe ha _ _)) (fun hHeld=>?_)
    clear hK K
    try simp only [Act.put,List.setIfInBounds_toArray,List.set_cons_zero,List.set_cons_succ]
    refine wpAnyH_done (by kernel_rfl) ?_ _
    try clear hHeld
    have HR5:=Hd.mk ((HR4.out.step HSET.out.2 (fun t h1 h2=>by rw [h2] at h1;rcases h1 with h1|h1|h1 <;> cases h1)).step ((Step.refl (fun _=>False) _ ρ3).drew) (fun _ _ h=>h))
    have HF5:=Hd.mk (HSET.out.1.step ((Step.refl (fun _=>False) _ ρ3).drew) (fun h=>h))
    have HS6:=Hd.mk (HS5.out.trans (HSET.out.2.mono (T':=RunT G) (fun t h=>Or.inr h)).drew)
    clear c0 c1 cf0 cf1 lG n1 n2 e1 e2 lb lsb x0 x1 lX hilf hiz hilN HSET HR4 HF4 HB3 HT3 HSX HR3 HF3 HS3 HS4 HS5
    generalize ((W4.setCell ⟨G,i*2,none⟩ (.int .i64 v.word)).setCell ⟨G,i*2+1,none⟩ (.pointer (ptrV (B++(B'++B3)) v))).drew=W5 at *
    go_wp2
    go_roundw
    case rel =>
     have hlm:=HLM.out
     have hw:wrap64 ((k:Int)+1)=((k+1:Nat):Int):=by unfold wrap64;omega
     exact ⟨k+1,ρ3,B'++B3,f2,h1,by first|rw [hw]|exact congrArg _ hw,by omega,HR5.out,HF5.out,by rw [HFE.out.2,List.length_set];exact HFL.out,HS6.out,HG3.out,HST2.out⟩
    case measure =>
     have hlm:=HLM.out
     have hw:wrap64 ((k:Int)+1)=((k+1:Nat):Int):=by unfold wrap64;omega
     rw [hw]
     simp [intOf]
     omega
  ·have hke:k=b.steps.length:=by omega
   have hq:=HSTK.out
   rw [hke,List.drop_length,stsR] at hq
   cases hq
   have hee:∃ x,(fk=fr'∧hk=h')∧atI fr' b.value=some x∧a'= .ok x:=by
    rcases HEND.out with ⟨g,he,_⟩|⟨x,he,h2⟩
    ·cases he
    ·cases he
     exact ⟨x,⟨rfl,rfl⟩,h2⟩
   obtain ⟨x,⟨rfl,rfl⟩,hat,rfl⟩:=hee
   obtain ⟨i,hii,hil,hget⟩:=atI_get hat
   rw [hii] at e3
   have hilf:(i:Int)<fr.length:=by have:=HLEN.out;omega
   have hiz:(0:Int)≤i:=by omega
   have hilN:i<fr.length:=by have:=HLEN.out;omega
   obtain ⟨c0,c1,cf,hvo⟩:=HFK.out.cells hget
   have lG:=HFK.out.lt
   have HVO:=Hd.mk hvo
   have q0:Wk.cell? ⟨w.heap.size,0,none⟩=some (.int .i64 0):=HBLK.out.cell (i:=0) rfl
   have q1:Wk.cell? ⟨w.heap.size,1,none⟩=some (.pointer none):=HBLK.out.cell (i:=1) rfl
   have gg0:=HBLK.out.free 0
   have gg1:=HBLK.out.free 1
   have lss:=HBLK.out.lt
   have hnlt:¬((k:Int)<b.steps.length):=by omega
   clear hke hat hii hil hget hvo cf hkl hlt
   go_wp2
   refine bodyPost_ret (results_cell2 rfl _ _ w.heap.size [.int .i64 x.word, .pointer (ptrV (B++B') x)] rfl ?_ Try.underlying64 rfl) rfl ?_
   ·exact (HBLK.out.setCell 0 _).setCell 1 _
   ·exact BlkP.fin (a:= .ok x) (B':=B') ((HS1.out.mono (T':=RunT G) (fun _ h=>h.elim)).trans HSK.out) (Nat.le_refl _) HTK.out hGS.out HRK.out HFK.out ⟨rfl,rfl,HVO.out⟩ HGK.out
mutual
theorem blkQ_all {p:Pg} {n N:Nat} {szs:List Int} {fuel:Int} {R:Nat} {K:Ctx} (hK:CtxC p n N szs fuel R K):∀ b:Bk,BlkQ p n N szs fuel R K b
 |.mk code bind steps value=>block_of (.mk code bind steps value) (stsQ_all hK steps)
theorem stsQ_all {p:Pg} {n N:Nat} {szs:List Int} {fuel:Int} {R:Nat} {K:Ctx} (hK:CtxC p n N szs fuel R K):∀ (l:List St) (s:St),s ∈ l→StQ p n N szs fuel R K s
 |[],_,h=>absurd h List.not_mem_nil
 |x :: l,s,h=>(List.mem_cons.1 h).elim (fun e=>e ▸ stQ_all hK x) (fun h=>stsQ_all hK l s h)
theorem stQ_all {p:Pg} {n N:Nat} {szs:List Int} {fuel:Int} {R:Nat} {K:Ctx} (hK:CtxC p n N szs fuel R K):∀ s:St,StQ p n N szs fuel R K s
 |.mk op out ty args int code types effs regs modes region keep blocks=>fun w ρ h B G gc fr sb so m a' fr' h' hr hfr hG hF hst hmN hres =>
  step_any p n N szs fuel R w ρ h B hr hfr hG m _ sb so hst G gc fr hF K hK hmN (bksQ_all hK blocks) a' fr' h' hres
theorem bksQ_all {p:Pg} {n N:Nat} {szs:List Int} {fuel:Int} {R:Nat} {K:Ctx} (hK:CtxC p n N szs fuel R K):∀ (l:List Bk) (b:Bk),b ∈ l→BlkQ p n N szs fuel R K b
 |[],_,h=>absurd h List.not_mem_nil
 |x :: l,b,h=>(List.mem_cons.1 h).elim (fun e=>e ▸ blkQ_all hK x) (fun h=>bksQ_all hK l b h)
end
end
section
open Go Go.RowKit
theorem nil_flat (B:List Nat) (n:Nat):flatV [] (List.replicate n nilV)=flatV B (List.replicate n nilV):=by
 induction n with
 |zero=>rfl
 |succ n ih =>
  rw [show n+1=1+n by omega, ←List.replicate_append_replicate,flatV_append,flatV_append,ih]
  rfl
theorem fn_frame (B:List Nat) (ag:List Vl) (s:Nat):splice (flatV [] (List.replicate s nilV)) 0 (flatV B (ag.take (Nat.min ag.length s)))=flatV B ((ag++List.replicate (s-ag.length) nilV).take s):=by
 have hmin:Nat.min ag.length s=min ag.length s:=rfl
 rw [nil_flat B,hmin]
 unfold splice
 simp only [List.take_zero,List.nil_append,Nat.zero_add]
 rw [flatV_len,List.length_take]
 rcases Nat.le_total ag.length s with h|h
 ·rw [show min (min ag.length s) ag.length=ag.length by omega,show min ag.length s=ag.length by omega,List.take_of_length_le (Nat.le_refl _),List.take_of_length_le (l:=ag++_) (by simp;omega),flatV_append]
  congr 1
  have h2:List.replicate s nilV=List.replicate ag.length nilV++List.replicate (s-ag.length) nilV:=by rw [List.replicate_append_replicate];congr 1;omega
  rw [h2,flatV_append,List.drop_append_of_le_length (by rw [flatV_len,List.length_replicate];omega),List.drop_of_length_le (by rw [flatV_len,List.length_replicate];omega),List.nil_append]
 ·rw [show min (min ag.length s) ag.length=s by omega,show min ag.length s=s by omega,show s-ag.length=0 by omega,List.replicate_zero,List.append_nil,List.drop_of_length_le (by rw [flatV_len,List.length_replicate];omega),List.append_nil]
theorem FusR.place {w:World} {ρ:Ghost} {n:Nat} {A:Option Addr} {len c:Nat} {l:List Fu} (h:FusR w ρ n (.slice A len c) l) {k:Nat} {f:Fu} (hk:l[k]? =some f):∃ b o,A=some ⟨b,o,none⟩∧BkAt w ρ n f.body b (o+k*19+15):=by
 obtain ⟨A',c',h1,h2,h3,h4,h5⟩:=h.out
 cases h1
 obtain ⟨b,o,cs,e1,e2,e3,e4,e5,e6⟩:=h5 k f hk
 obtain ⟨ce,vp,cr,cb,h0,_,_,_,_,_,h6,_,h8,h9⟩:=e5
 refine ⟨b,o,e1,e2,e3,cb,h9,fun j u hj=>?_⟩
 obtain ⟨f1,f2,rfl,_,_⟩:=h6
 obtain ⟨m,va0,r1,r2,rfl,rfl,_⟩:=h8.shape
 rw [show o+k*19+15+j=o+k*19+(j+15) by omega]
 exact e6 (j+15) u (by rw [h0];exact hj)
theorem SzR.elem {w:World} {ρ:Ghost} {A:Option Addr} {len c:Nat} {l:List Int} (h:SzR w ρ (.slice A len c) l) {k:Nat} {x:Int} (hk:l[k]? =some x):∃ b o,A=some ⟨b,o,none⟩∧ρ b=none∧w.cell? ⟨b,o+k,none⟩=some (.int .i64 x)∧b<w.heap.size:=by
 obtain ⟨A',c',h1,_,_,_,h5⟩:=h.out
 cases h1
 obtain ⟨b,o,cs,e1,e2,e3,e4,⟨rfl,_⟩,e6⟩:=h5 k x hk
 exact ⟨b,o,e1,e2,by have:=e6 0 _ rfl;rw [Nat.mul_one,Nat.add_zero] at this;exact this,e3⟩
theorem function_run (p:Pg) (n N:Nat) (szs:List Int) (fuel:Int) (R:Nat) (hnN:n≤N) (hszs:∀ (k:Nat) (f:Fu),p.funs[k]? =some f→szs[k]? =some (sizeF f)) (K:Ctx) (hK:CtxC p n N szs fuel R K) (w:World) (ρ:Ghost) (h:Hp) (B:List Nat) (hr:RnR p n N szs fuel R w ρ h B) (hfr:Fresh w ρ) (hG:OkG ρ) (X ac:Nat) (ag:List Vl) (hF:FrR w ρ B X ac ag) (code:Nat) (f:Fu) (hf:p.funs[code]? =some f) (s:Nat) (hs:sizeF f=s) (hsl:s≤1000000) (a':Ans) (fr':Fr) (h':Hp) (hres:blkR K f.body ((ag++List.replicate (s-ag.length) nilV).take s) h=some (a',fr',h')) :
 Calls Try.prog 16 #[.pointer (some ⟨R,0,none⟩), .int .i64 code, .slice (some ⟨X,0,none⟩) ag.length ac] w (RunP p n N szs fuel R w ρ B RunQ a' h'):=by
 have HRN:=Hd.mk hr
 have HFR:=Hd.mk hfr
 have HG:=Hd.mk hG
 have HFM:=Hd.mk hF
 have HRES:=Hd.mk hres
 have HQ:=Hd.mk (blkQ_all hK f.body)
 have HNN:=Hd.mk hnN
 have HSL:=Hd.mk hsl
 have HS1:=Hd.mk ((Step.refl (fun _=>False) w ρ).alloc_tag (.cells #[.int .i64 0, .pointer none] 64) (43,w.heap.size))
 have HB0:Hd (Blk (w.alloc (.cells #[.int .i64 0, .pointer none] 64)) w.heap.size 64 [.int .i64 0, .pointer none]):=⟨Blk.new' _ _ _⟩
 have HT0:Hd (ρ.put w.heap.size (43,w.heap.size) w.heap.size=some (43,w.heap.size)):=⟨Ghost.put_same _ _ _⟩
 have HG1:Hd (OkG (ρ.put w.heap.size (43,w.heap.size))):=⟨hG.frame _⟩
 obtain ⟨A3,c3,A4,c4,_,_,e2,e4,_,_,_,hfus,hsz,_,_⟩:=hr.form
 have lR:=hr.lt
 have hsc:=hszs code f hf
 rw [hs] at hsc
 obtain ⟨bs,os,rfl,_,f0,lbs⟩:=SzR.elem hsz hsc
 obtain ⟨bf,of,rfl,hbf⟩:=hfus.place hf
 have HBF:=Hd.mk hbf
 have hcl:code<p.funs.length:=(List.getElem?_eq_some_iff.1 hf).1
 have hcs:code<szs.length:=(List.getElem?_eq_some_iff.1 hsc).1
 have hci:(code:Int)<p.funs.length:=by omega
 have hcj:(code:Int)<szs.length:=by omega
 have hcz:(0:Int)≤code:=by omega
 have hXb:(w.alloc (.cells #[.int .i64 0, .pointer none] 64)).heap.size=w.heap.size+1:=by simp
 have hmk:=makeV (w.alloc (.cells #[.int .i64 0, .pointer none] 64)) s s (Nat.le_refl _) (by omega)
 rw [hXb] at hmk
 have HX2:=Hd.mk hXb
 have hbl:=Blk.new (w.alloc (.cells #[.int .i64 0, .pointer none] 64)) (flatV [] (List.replicate s nilV)) 64
 rw [hXb] at hbl
 have HBL:=Hd.mk hbl
 have hst2:=HS1.out.alloc_tag (.cells (flatV [] (List.replicate s nilV)).toArray 64) (43,w.heap.size+1)
 rw [hXb] at hst2
 have HS2:=Hd.mk hst2
 have HGT:Hd ((ρ.put w.heap.size (43,w.heap.size)).put (w.heap.size+1) (43,w.heap.size+1) (w.heap.size+1)=some (43,w.heap.size+1)):=⟨Ghost.put_same _ _ _⟩
 have HG2:Hd (OkG ((ρ.put w.heap.size (43,w.heap.size)).put (w.heap.size+1) (43,w.heap.size+1))):=⟨HG1.out.frame _⟩
 have HT2:Hd ((ρ.put w.heap.size (43,w.heap.size)).put (w.heap.size+1) (43,w.heap.size+1) w.heap.size=some (43,w.heap.size)):=⟨(Ghost.put_ne _ _ (by omega)).trans HT0.out⟩
 have HB2:=Hd.mk (HB0.out.alloc (.cells (flatV [] (List.replicate s nilV)).toArray 64))
 have hpos:Hd (s=0∨0<s):=⟨by omega⟩
 clear hbl hst2
 clear hr hfr hG hF hres hK hf hs hfus hsz hbf hszs hsc hXb hnN hsl
 go_enter Try.func16,Try.ntmps16
 go_wp2_with (refine wpList_copyB rfl _ _ _ _ rfl 64 2 Try.underlying61 valSize2 (w.heap.size+1) 0 s s 64 (flatV [] (List.replicate s nilV)) rfl HBL.out (some ⟨X,0,none⟩) ag.length ac rfl (flatV B (ag.take (Nat.min ag.length s))) ?l1 (.inr ⟨_,rfl,?c1⟩) ?l2 (flatV_one _ _) ((ρ.put w.heap.size (43,w.heap.size)).put (w.heap.size+1) (43,w.heap.size+1)) (43,w.heap.size+1) HGT.out ?c2)
 case l1 =>
  rw [flatV_len,List.length_take]
  have hm:Nat.min ag.length s=min ag.length s:=rfl
  rw [hm]
  congr 1
  omega
 case l2 =>
  rw [flatV_len,List.length_take,flatV_len,List.length_replicate]
  have hm:Nat.min ag.length s=min ag.length s:=rfl
  rw [hm]
  omega
 case c1 =>
  intro j u hj
  have hjl:=(List.getElem?_eq_some_iff.1 hj).1
  have h1:=HFM.out.own
  rw [flatV_len,List.length_take] at hjl
  obtain ⟨g,c,hv,_,_,_,h2,_,h3⟩:=h1.some (by omega)
  cases hv
  rw [add_plainO,Nat.zero_add,World.cell?_alloc_lt _ _ _ (by simpa using Nat.lt_succ_of_lt h3),World.cell?_alloc_lt _ _ _ h3,h2 j (by omega)]
  have h4:flatV B ag=flatV B (ag.take (Nat.min ag.length s))++flatV B (ag.drop (Nat.min ag.length s)):=by rw [←flatV_append,List.take_append_drop]
  rw [h4,List.getElem?_append_left (List.getElem?_eq_some_iff.1 hj).1]
  exact hj
 case c2 =>
  intro W3 hB3 hS3 _
  rw [fn_frame] at hB3
  have hs:=(HS2.out.mono (T':=(· =((43,w.heap.size+1):Tag))) (fun _ h=>h.elim)).trans hS3
  have e2':W3.cell? ⟨R,2,none⟩=_:=(World.cell?_of_block (hs.block R lR (fun t ht h2=>by rw [HRN.out.tag,h2] at ht;cases ht))).trans e2
  have HR3:=Hd.mk (HRN.out.step hs (fun t h1 h2=>by rw [h2] at h1;rcases h1 with h1|h1|h1 <;> cases h1))
  have lR3:=HR3.out.lt
  have HFR3:=Hd.mk (hs.fresh HFR.out)
  have HBF3:=Hd.mk (HBF.out.step hs)
  have hbb:=hS3.blk' HB2.out HT2.out (by simp)
  have HBB:=Hd.mk hbb
  have HS3:=Hd.mk hs
  have lbf:=HBF3.out.lt
  have hfl:((ag++List.replicate (s-ag.length) nilV).take s).length=s:=by rw [List.length_take,List.length_append,List.length_replicate];omega
  have HFL:=Hd.mk hfl
  have HF3:Hd (FrR W3 ((ρ.put w.heap.size (43,w.heap.size)).put (w.heap.size+1) (43,w.heap.size+1)) B (w.heap.size+1) s ((ag++List.replicate (s-ag.length) nilV).take s)):=⟨⟨by
   rw [hfl]
   exact OwnSl.mk HGT.out hB3 (Nat.le_refl _) (by unfold maxLen;have:=HSL.out;omega) (by rw [flatV_len,hfl];omega) (by rw [List.take_of_length_le (by rw [flatV_len,hfl];omega)]),HGT.out,hB3.lt,fun v hv=>by
    rcases List.mem_append.1 (List.mem_of_mem_take hv) with h|h
    ·exact HFM.out.ok v h
    ·rw [(List.mem_replicate.1 h).2]
     exact nilVOk _ 0 (I64_lit 0 (by decide) (by decide)),by rw [hfl];have:=HSL.out;omega⟩⟩
  generalize (ρ.put w.heap.size (43,w.heap.size)).put (w.heap.size+1) (43,w.heap.size+1)=ρ2 at *
  generalize (ag++List.replicate (s-ag.length) nilV).take s=fr at *
  have hcall:=HQ.out W3 ρ2 h B (w.heap.size+1) s fr bf (of+code*19+15) n a' fr' h' HR3.out HFR3.out HG2.out HF3.out HBF3.out HNN.out HRES.out
  rw [hfl] at hcall
  have HCALL:=Hd.mk hcall
  clear hB3 hS3 hs hbb hfl hcall e2 lR
  go_wp2_with fail
  refine HCALL.out.mono ?_
  rintro e W4 ⟨ρ4,B4,x4,s4,rfl,ha4,hr4,hf4,hs4,hg4⟩
  have hT:¬RunT (w.heap.size+1) (43,w.heap.size):=fun h=>by
   rcases h with h|h
   ·rcases h with h|h|h <;> cases h
   ·have h:=congrArg Prod.snd h
    have h:w.heap.size=w.heap.size+1:=h
    omega
  have HSQ:=Hd.mk ((Step.refl RunQ w ρ).dropFrame ((HS3.out.mono (T':=RunT (w.heap.size+1)) (fun t h=>Or.inr h)).trans hs4) HG.out (Nat.le_succ _))
  have hb4:=hs4.blk' HBB.out HT2.out hT
  have HB4:=Hd.mk hb4
  have HT4:=Hd.mk (hs4.tag HBB.out.lt HT2.out)
  have HA4:=Hd.mk ha4
  have HR4:=Hd.mk hr4
  have HG4:=Hd.mk hg4
  have q0:W4.cell? ⟨w.heap.size,0,none⟩=some (.int .i64 0):=hb4.cell (i:=0) rfl
  have q1:W4.cell? ⟨w.heap.size,1,none⟩=some (.pointer none):=hb4.cell (i:=1) rfl
  have gg0:=hb4.free 0
  have gg1:=hb4.free 1
  have lss:=hb4.lt
  obtain ⟨u0,u1,rfl⟩:=ha4.two
  clear ha4 hr4 hf4 hs4 hg4 hb4 hT HCALL e2'
  go_wp2
  refine bodyPost_ret (results_cell2 rfl _ _ w.heap.size [.int .i64 u0, .pointer u1] rfl ?_ Try.underlying64 rfl) rfl ?_
  ·exact (HB4.out.setCell 0 _).setCell 1 _
  ·exact RunP.fin HSQ.out (Nat.le_refl _) HT4.out HR4.out HA4.out HG4.out
theorem atI_some {α:Type} {l:List α} {x:Int} {v:α} (h:atI l x=some v):∃ i:Nat,x=i∧l[i]? =some v:=by
 unfold atI at h
 split at h
 ·cases h
 ·exact ⟨x.toNat,by omega,h⟩
theorem ctx_all {p:Pg} {n N:Nat} {szs:List Int} {fuel:Int} {R:Nat} (hnN:n≤N) (hszs:∀ (k:Nat) (f:Fu),p.funs[k]? =some f→szs[k]? =some (sizeF f)):∀ g:Nat,CtxC p n N szs fuel R (fnR p fuel g)
 |0=>⟨rfl,fun w ρ h B X ac ag code a' h' _ _ _ _ he=>(by have he:(none:Option (Ans × Hp))=some (a',h'):=he;cases he),fun w ρ h B G gc fr b bb o a' h' _ _ _ _ _ he=>(by have he:(none:Option (Ans × Hp))=some (a',h'):=he;cases he)⟩
 |g+1=>by
  refine ⟨rfl,fun w ρ h B X ac ag code a' h' hr hfr hG hF he=>?_,fun w ρ h B G gc fr b bb o a' h' hr hfr hG hF hb he=>?_⟩
  ·simp only [fnR,Option.bind_eq_some_iff] at he
   obtain ⟨f,h1,h2⟩:=he
   obtain ⟨k,rfl,hf⟩:=atI_some h1
   rcases ite_parts h2 with ⟨_,h3⟩|⟨hn,h3⟩
   ·cases h3
   obtain ⟨⟨ra,rf,rh⟩,h4,h5⟩:=Option.map_eq_some_iff.1 h3
   cases h5
   exact function_run p n N szs fuel R hnN hszs _ (ctx_all hnN hszs g) w ρ h B hr hfr hG X ac ag hF k f hf (sizeF f).toNat (by omega) (by omega) _ rf _ h4
  ·simp only [fnR] at he
   obtain ⟨⟨ra,rf,rh⟩,h4,h5⟩:=Option.map_eq_some_iff.1 he
   cases h5
   refine (blkQ_all (ctx_all hnN hszs g) b w ρ h B G gc fr bb o N _ rf _ hr hfr hG hF hb (Nat.le_refl _) h4).mono ?_
   rintro e w' ⟨ρ',B',x,s,h1,h2,h3,_,h5,h6⟩
   exact ⟨ρ',B',x,s,h1,h2,h3,h5,h6⟩
end
section
open Go Go.RowKit
def IntV (x:Int) (cs:List Value):Prop:=cs=[.int .i64 x]
theorem ownInts {w:World} {ρ ρ':Ghost} {tg:Tag} {e:TypeId} {A:Option Addr} {c:Nat} {l:List Int} {R:Int→List Value→Prop} {byt:Nat} (h:OwnSl w ρ tg e 1 (.slice A l.length c) l.length (l.map (.int .i64 ·))) (hb:l.length*byt≤140737488355328) (hR:∀ x,x ∈ l→R x [.int .i64 x]) (hn:∀ b,ρ b=some tg→ρ' b=none):SlR w ρ' 1 byt R (.slice A l.length c) l:=by
 obtain ⟨_,c',hc,h1,h2⟩:=h.form
 cases hc
 refine ⟨A,c,rfl,h1,h2,hb,fun i x hi=>?_⟩
 have hlt:=(List.getElem?_eq_some_iff.1 hi).1
 obtain ⟨g,cap,hv,hg,_,_,h3,_,h4⟩:=h.some (by omega)
 cases hv
 refine ⟨g,0,[.int .i64 x],rfl,hn g hg,h4,rfl,hR x (List.mem_of_getElem? hi),fun j u hj=>?_⟩
 cases j with
 |zero =>
  simp only [List.getElem?_cons_zero,Option.some.injEq] at hj
  subst hj
  rw [Nat.mul_one,Nat.add_zero,Nat.zero_add,h3 i (by omega),List.getElem?_map,hi]
  rfl
 |succ j=>simp at hj
theorem flatV_wd (B:List Nat) (l:List Int):flatV B (l.map wd)=flatV [] (l.map wd):=by
 induction l with
 |nil=>rfl
 |cons x l ih =>
  rw [List.map_cons,flatV_cons,flatV_cons,ih]
  rfl
def startG (R X:Nat):Ghost:=fun b=>if b=R then some (40,0) else if b=X then some (43,X) else none
theorem run_start {p:Pg} {n:Nat} {W2 W:World} {ρ:Ghost} {R X:Nat} {A1 A2 A3 A4:Option Addr} {c1 c2 c3 c4 cl:Nat} {fz:Int} {ag:List Int} (hs:Step (fun _=>False) W2 NoG W ρ) (hfr:Fresh W ρ) (hb:Blk W R 59 [.slice A1 p.datas.length c1, .slice A2 p.exns.length c2, .slice A3 p.funs.length c3, .int .i64 p.main, .slice A4 p.funs.length c4, .int .i64 fz, .int .i64 0, .slice none 0 0]) (ht:ρ R=some (40,0)) (hz:OwnSl W ρ (40,2) 3 1 (.slice A4 p.funs.length c4) p.funs.length (p.funs.map fun f=>Value.int .i64 (sizeF f))) (hf:FusR W2 NoG n (.slice A3 p.funs.length c3) p.funs) (hv:∀ f,f ∈ p.funs→0≤sizeF f∧sizeF f≤16384) (hl:p.funs.length≤1000000) (ho:OwnSl W ρ (44,0) 64 2 (.slice (some ⟨X,0,none⟩) ag.length cl) ag.length (flatV [] (ag.map wd))) (hX:ρ X=some (44,0)) (hi:∀ x,x ∈ ag→I64 x) (hal:ag.length≤1000) (h0:0≤fz) (h1:fz≤8192) :
 RnR p n n (p.funs.map sizeF) fz R W (startG R X) ⟨[],0,[]⟩ []∧FrR W (startG R X) [] X cl (ag.map wd)∧Fresh W (startG R X)∧OkG (startG R X)∧Step (fun _=>False) W2 NoG W (startG R X):=by
 have hRX:R≠X:=fun e=>by rw [e,hX] at ht;cases ht
 have lR:=hb.lt
 have oR:W2.heap.size≤R:=Nat.le_of_not_lt fun h=>by have:=hs.ghost R h;rw [ht] at this;cases this
 have oX:W2.heap.size≤X:=Nat.le_of_not_lt fun h=>by have:=hs.ghost X h;rw [hX] at this;cases this
 have lX:X<W.heap.size:=Nat.lt_of_not_le fun h=>by have:=hfr X h;rw [hX] at this;cases this
 have g1:startG R X R=some (40,0):=by unfold startG;rw [if_pos rfl]
 have g2:startG R X X=some (43,X):=by unfold startG;rw [if_neg (fun e=>hRX e.symm),if_pos rfl]
 have g3:∀ b,b≠R→b≠X→startG R X b=none:=fun b h1 h2=>by unfold startG;rw [if_neg h1,if_neg h2]
 have hst:Step (fun _=>False) W2 NoG W (startG R X):=hs.reghost (fun k hk=>g3 k (by omega) (by omega)) (fun k hk=>g3 k (by omega) (by omega))
 have hok:OkG (startG R X):=fun b t hb=>by
  unfold startG at hb
  split at hb
  ·cases hb
   exact ⟨by decide,fun h=>by cases h⟩
  ·split at hb
   ·rename_i he
    cases hb
    exact ⟨Nat.le_refl _,fun _=>he.symm⟩
   ·cases hb
 refine ⟨⟨⟨A1,c1,A2,c2,A3,c3,A4,c4,none,0,?_,hf.step hst,?_,OwnSl.nil _ _ _ _ _⟩,g1,rfl,fun k c b hk _=>by simp at hk,Int.le_refl _,h0,h1⟩,⟨?_,g2,lX,fun v hv=>?_,?_⟩,fun k hk=>g3 k (by omega) (by omega),hok,hst⟩
 ·rw [List.length_map]
  exact hb
 ·have hz':OwnSl W ρ (40,2) 3 1 (.slice A4 (p.funs.map sizeF).length c4) (p.funs.map sizeF).length ((p.funs.map sizeF).map (.int .i64 ·)):=by
   rw [List.length_map,List.map_map]
   exact hz
  refine ownInts hz' (by rw [List.length_map];omega) (fun x hx=>⟨rfl,?_⟩) (fun b hb=>g3 b (fun e=>by rw [e,ht] at hb;cases hb) (fun e=>by rw [e,hX] at hb;cases hb))
  obtain ⟨f,hf,rfl⟩:=List.mem_map.1 hx
  obtain ⟨h2,h3⟩:=hv f hf
  exact ⟨by omega,by omega⟩
 ·rw [List.length_map]
  rcases ho.2 with ⟨h0,_⟩|⟨g,cap,L,h0,hr,hbl,q1,q2,q3,q4⟩
  ·cases h0
  ·cases h0
   exact OwnSl.mk g2 hbl q1 q2 q3 q4
 ·obtain ⟨x,hx,rfl⟩:=List.mem_map.1 hv
  exact nilVOk _ x (hi x hx)
 ·rw [List.length_map]
  omega
theorem SlR.anyG {α:Type} {w:World} {ρ:Ghost} {sz byt:Nat} {R:α→List Value→Prop} {v:Value} {l:List α} (h:SlR w ρ sz byt R v l):SlR w NoG sz byt R v l:=by
 obtain ⟨A,c,h1,h2,h3,h4,h5⟩:=h.out
 refine ⟨A,c,h1,h2,h3,h4,fun i x hi=>?_⟩
 obtain ⟨b,o,cs,e1,e2,e3,e4,e5,e6⟩:=h5 i x hi
 exact ⟨b,o,cs,e1,rfl,e3,e4,e5,e6⟩
theorem run_fin {w Wz W11:World} {ρ:Ghost} {rb:Nat} {A5:Option Addr} {c5:Nat} {outs:List Int} {L:List Value} (hrb:w.heap.size≤rb) (hs:Step (fun _=>False) w NoG Wz ρ) (hn:ρ rb=none) (ho:OwnSl Wz ρ (40,1) 2 1 (.slice A5 outs.length c5) outs.length (outs.map (.int .i64 ·))) (hb:Blk Wz rb 34 L) (hL:L.length=6) (hz:Below Wz.heap.size Wz W11) (x0 x1 x2 x3 x4 x5:Value) :
 Blk ((((((W11.setCell ⟨rb,0,none⟩ x0).setCell ⟨rb,1,none⟩ x1).setCell ⟨rb,2,none⟩ x2).setCell ⟨rb,3,none⟩ x3).setCell ⟨rb,4,none⟩ x4).setCell ⟨rb,5,none⟩ x5) rb 34 [x0,x1,x2,x3,x4,x5] ∧
 SlR ((((((W11.setCell ⟨rb,0,none⟩ x0).setCell ⟨rb,1,none⟩ x1).setCell ⟨rb,2,none⟩ x2).setCell ⟨rb,3,none⟩ x3).setCell ⟨rb,4,none⟩ x4).setCell ⟨rb,5,none⟩ x5) NoG 1 0 IntV (.slice A5 outs.length c5) outs ∧
 Below w.heap.size w ((((((W11.setCell ⟨rb,0,none⟩ x0).setCell ⟨rb,1,none⟩ x1).setCell ⟨rb,2,none⟩ x2).setCell ⟨rb,3,none⟩ x3).setCell ⟨rb,4,none⟩ x4).setCell ⟨rb,5,none⟩ x5):=by
 obtain ⟨y0,y1,y2,y3,y4,y5,rfl⟩:∃ y0 y1 y2 y3 y4 y5,L=[y0,y1,y2,y3,y4,y5]:=by
  match L,hL with
  |[y0,y1,y2,y3,y4,y5],_=>exact ⟨_,_,_,_,_,_,rfl⟩
 have hb1:Blk W11 rb 34 _:=hb.of_heap (hz.block rb hb.lt)
 have h1:SlR Wz (NoG.put rb (50,0)) 1 0 IntV (.slice A5 outs.length c5) outs:=ownInts ho (by simp) (fun x _=>rfl) (fun b hb'=>Ghost.put_ne _ _ (fun e=>by rw [e,hn] at hb';cases hb'))
 have ht:NoG.put rb (50,0) rb=some (50,0):=Ghost.put_same _ _ _
 have s1:Step (· =((50,0):Tag)) Wz (NoG.put rb (50,0)) W11 (NoG.put rb (50,0)):=(Step.refl (fun _=>False) Wz (NoG.put rb (50,0))).of_below hz |>.mono (fun _ h=>h.elim)
 have s2:=(((((s1.setCell (a:=⟨rb,0,none⟩) ht rfl x0).setCell (a:=⟨rb,1,none⟩) ht rfl x1).setCell (a:=⟨rb,2,none⟩) ht rfl x2).setCell (a:=⟨rb,3,none⟩) ht rfl x3).setCell (a:=⟨rb,4,none⟩) ht rfl x4).setCell (a:=⟨rb,5,none⟩) ht rfl x5
 have s3:=((((((hs.of_below hz).setCell_new (a:=⟨rb,0,none⟩) hrb x0).setCell_new (a:=⟨rb,1,none⟩) hrb x1).setCell_new (a:=⟨rb,2,none⟩) hrb x2).setCell_new (a:=⟨rb,3,none⟩) hrb x3).setCell_new (a:=⟨rb,4,none⟩) hrb x4).setCell_new (a:=⟨rb,5,none⟩) hrb x5
 exact ⟨(((((hb1.setCell 0 x0).setCell 1 x1).setCell 2 x2).setCell 3 x3).setCell 4 x4).setCell 5 x5,(h1.step s2 (fun _ _ _ h=>h)).anyG,s3.toBelow⟩
end
end Go.Proofs.Ytadffbgbndibpaa
