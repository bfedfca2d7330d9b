/- GaN: lemmas and walks of the claim. -/
import Derived.Test.YtadffbgbndibpaaKGaM
set_option linter.unusedVariables false
set_option linter.unusedSimpArgs false
set_option maxHeartbeats 16000000
set_option maxRecDepth 100000
namespace Go.Proofs.Ytadffbgbndibpaa
open Go Go.RowKit
def bigOf {α:Type}:Option α→(α→Rs CS)→Rs CS
 |some x,f=>f x
 |none,_=> .big
def casesR (p:Pg) (ty:Int) (c:CS) (s:St) (a:Ty):Rs CS :=
 if bindsFit s.blocks (consOf p a.n) then bigOf (caseBinds a.args (consOf p a.n)) (fun bs=>valuesC p ty c bs s.ty s.blocks) else .no
def LtR (w:World) (ρ:Ghost) (n:Nat) (x:List Ty) (cs:List Value):Prop:=∃ A c,cs=[.slice A x.length c]∧TysR w ρ n (.slice A x.length c) x
theorem LtR.step {T:Tag→Prop} {w w':World} {ρ ρ':Ghost} {n:Nat} {x:List Ty} {cs:List Value} (h:LtR w ρ n x cs) (hs:Step T w ρ w' ρ'):LtR w' ρ' n x cs:=by
 obtain ⟨A,c,h1,h2⟩:=h
 exact ⟨A,c,h1,h2.step hs⟩
theorem LtR.ghost {w:World} {ρ ρ':Ghost} {n:Nat} {x:List Ty} {cs:List Value} (h:LtR w ρ n x cs) (hg:∀ b,ρ b=none→ρ' b=none):LtR w ρ' n x cs:=by
 obtain ⟨A,c,h1,h2⟩:=h
 exact ⟨A,c,h1,h2.ghost hg⟩
theorem infoSl:(Try.prog.info? 41).map (fun i=>(i.zero,i.size,i.bytes))=some (some (.slice none 0 0),1,24):=by kernel_rfl
def bsTo (ag:List Ty) (l:List Con) (k:Nat):List (List Ty):=(l.take k).map fun c=>atL ag c.fields
theorem bsTo_succ {ag:List Ty} {l:List Con} {k:Nat} {x:Con} (h:l[k]? =some x):bsTo ag l (k+1)=bsTo ag l k++[atL ag x.fields]:=by
 obtain ⟨hlt,he⟩:=List.getElem?_eq_some_iff.1 h
 unfold bsTo
 rw [List.take_succ_eq_append_getElem hlt,List.map_append,he]
 rfl
theorem bsTo_len (ag:List Ty) (l:List Con) {k:Nat} (h:k≤l.length):(bsTo ag l k).length=k:=by
 unfold bsTo
 rw [List.length_map,List.length_take]
 omega
theorem bindsFit_nil (l:List Bk) (m:List Con) (k:Nat) (h1:l.length≤k) (h2:m.length≤k):bindsFit (l.drop k) (m.drop k)=true:=by
 rw [List.drop_eq_nil_of_le h1,List.drop_eq_nil_of_le h2,bindsFit]
def AtNo (ρ:Ghost):Prop:=∀ b i,ρ b≠some (32,i)
def RowT:Tag→Prop:=fun t=>t=(33,1)
structure CaK (w:World) (ρ:Ghost) (w':World) (ρ':Ghost):Prop where
 step:Step RowT w ρ w' ρ'
 no:AtNo ρ'
theorem Step.noT {T T':Tag→Prop} {w w':World} {ρ ρ':Ghost} (hs:Step T w ρ w' ρ') (hn:∀ b t,ρ b=some t→¬T t):Step T' w ρ w' ρ' :=
 ⟨hs.os,hs.tape,hs.output,hs.size,hs.ghost,fun k hk _=>hs.block k hk (hn k),hs.fresh⟩
theorem RowT.not {ρ:Ghost} (ho:OnlyCk ρ):∀ b t,ρ b=some t→¬RowT t:=fun b t h e=>(ho b t h).2 (by rw [e])
theorem LtsR.of_row {w:World} {ρ ρ0:Ghost} {t:Tag} {e:TypeId} {n k:Nat} {v:Value} {l:List (List Ty)} {xs:List Value} (h:FlatR 1 (LtR w ρ n) l xs) (hO:OwnSl w ρ0 t e 1 v k xs) (hn:l.length=k) (hρ:∀ g,ρ0 g=some t→ρ g=none) (hb:k*24≤140737488355328):LtsR w ρ n v l:=by
 rcases hO.2 with ⟨rfl,rfl⟩|⟨g,cap,L,rfl,hr,hbk,h1,h2,h3,h4⟩
 ·rw [List.length_eq_zero_iff] at hn
  subst hn
  exact SlR.nil _ _ _ _ _
 ·have hs:=h.slR hO hn (hρ g hr) hb
  rw [hn] at hs
  exact hs
theorem formed_bsTo {ds:List Dat} {ty:Int} {ag:List Ty} {l:List Con} {k:Nat} (hag:∀ t,t ∈ ag→formed1 ds ty t=true) (hl:∀ x,x ∈ l→formedL ds ag.length x.fields=true):∀ x t,x ∈ bsTo ag l k→t ∈ x→formed1 ds ty t=true:=fun x t hx ht=>by
 unfold bsTo at hx
 obtain ⟨c,hc,rfl⟩:=List.mem_map.1 hx
 exact formedL_mem (formedL_at hag _ (hl c (List.mem_of_mem_take hc))) t ht
theorem CkR.setBig {F:Ty→Prop} {w:World} {ρ:Ghost} {C:Nat} {hd:List Value} {mb:Nat} {c:CS} {big:Bool} (h:CkR F w ρ C hd mb c big) (hm:mb≠C) :
 CkR F (w.setCell ⟨C,25,none⟩ (.bool true)) ρ C hd mb c true∧Step CkT w ρ (w.setCell ⟨C,25,none⟩ (.bool true)) ρ:=by
 have hs:Step (fun t=>t=(31,0)) w ρ (w.setCell ⟨C,25,none⟩ (.bool true)) ρ:=Step.setCell (T:=fun t=>t=(31,0)) (a:=⟨C,25,none⟩) (t:=(31,0)) (Step.refl _ w ρ) h.tag rfl _
 obtain ⟨sv,h1,h2⟩:=h.blk
 refine ⟨⟨⟨sv,?_,h2.step hs (by decide)⟩,h.hdl,h.tag,h.map.step hs (by decide),h.ok⟩,hs.mono (fun t ht=> .inl ht)⟩
 have h3:=h1.setCell 25 (.bool true)
 rw [List.set_append_right _ _ (by have:=h.hdl;omega),h.hdl] at h3
 exact h3
theorem cases_any (p:Pg) (ty:Int) (nd N:Nat) (hP:HdP p) (HBC:Hd (BlockC p ty nd N)) (w:World) (ρ:Ghost) (C:Nat) (hd:List Value) (mb:Nat) (c:CS) (s:St) (S0 S1 S2 S3 S4 S5 S6 S7 S8 S9:Option Addr) (s0 s1 s2 s3 s4 s5 s6 s7 s8 s9:Nat) (a:Ty) (na:Nat) (D0 D1 D2:Option Addr) (d0 d1 d2:Nat) (hC:CkR (fun t=>formed1 p.datas ty t=true) w ρ C hd mb c false) (hK:CkS w ρ p ty nd hd) (hV:StV w ρ N s (.slice S0 s.ty.args.length s0) (.slice S1 s.ty.eff.regs.length s1) (.slice S2 s.ty.eff.vars.length s2) (.slice S3 s.args.length s3) (.slice S4 s.types.length s4) (.slice S5 s.effs.length s5) (.slice S6 s.regs.length s6) (.slice S7 s.modes.length s7) (.slice S8 s.keep.length s8) (.slice S9 s.blocks.length s9)) (hA:TyR w ρ na a (tyCells a (.slice D0 a.args.length d0) (.slice D1 a.eff.regs.length d1) (.slice D2 a.eff.vars.length d2))) (ha4:a.kind=4) (hFa:formed1 p.datas ty a=true) (hFt:formed1 p.datas ty s.ty=true) (hln:s.blocks.length=(consOf p a.n).length) (hfr:Fresh w ρ) (ho:OnlyCk ρ) :
 Calls Try.prog 55 #[.pointer (some ⟨C,0,none⟩), .agg (stCells s (.slice S0 s.ty.args.length s0) (.slice S1 s.ty.eff.regs.length s1) (.slice S2 s.ty.eff.vars.length s2) (.slice S3 s.args.length s3) (.slice S4 s.types.length s4) (.slice S5 s.effs.length s5) (.slice S6 s.regs.length s6) (.slice S7 s.modes.length s7) (.slice S8 s.keep.length s8) (.slice S9 s.blocks.length s9)).toArray, .agg #[.int .i64 a.kind, .int .i64 a.n, .string a.name, .slice D0 a.args.length d0, .int .i64 a.region, .slice D1 a.eff.regs.length d1, .slice D2 a.eff.vars.length d2]] w fun e w'=>∃ ρ',e= .returned (.bool (casesR p ty c s a).isOk)∧CkP (fun t=>formed1 p.datas ty t=true) w ρ w' ρ' C hd mb c (casesR p ty c s a):=by
 obtain ⟨n,d,hn,hd0,hdl,hnl⟩:=formed1_data hFa ha4
 have hcn:consOf p a.n=d.cons:=by unfold consOf;rw [hn,Int.toNat_natCast,hd0];rfl
 obtain ⟨r,hr⟩:∃ z,casesR p ty c s a=z:=⟨_,rfl⟩
 rw [hr]
 rw [hcn] at hln
 unfold casesR at hr
 rw [hcn] at hr
 have hmem:d ∈ p.datas:=List.mem_of_getElem? hd0
 have HFC:Hd (∀ x,x ∈ d.cons→formedL p.datas a.args.length x.fields=true):=⟨fun x hx=>by rw [hdl];exact hP.cons d hmem x hx⟩
 have HR:=Hd.mk hr
 have HNN:=Hd.mk hn
 have HD0:=Hd.mk hd0
 have HLN:=Hd.mk hln
 have HC:=Hd.mk hC
 have HK:=Hd.mk hK
 have HV:=Hd.mk hV
 have HA:=Hd.mk hA
 have HFA:Hd (∀ t,t ∈ a.args→formed1 p.datas ty t=true):=⟨formedL_mem (formed1_args hFa)⟩
 have HFT:=Hd.mk hFt
 have HFR:=Hd.mk hfr
 have HO:=Hd.mk ho
 have HMB:Hd (mb≠C):=⟨fun e=>by
  have h1:=hC.map.tag
  rw [e,hC.tag] at h1
  cases h1⟩
 have HCS:=Hd.mk (Blk.new w (stCells s (.slice S0 s.ty.args.length s0) (.slice S1 s.ty.eff.regs.length s1) (.slice S2 s.ty.eff.vars.length s2) (.slice S3 s.args.length s3) (.slice S4 s.types.length s4) (.slice S5 s.effs.length s5) (.slice S6 s.regs.length s6) (.slice S7 s.modes.length s7) (.slice S8 s.keep.length s8) (.slice S9 s.blocks.length s9)) 94)
 have HS1:=Hd.mk ((Step.refl (fun _=>False) w ρ).alloc (.cells (stCells s (.slice S0 s.ty.args.length s0) (.slice S1 s.ty.eff.regs.length s1) (.slice S2 s.ty.eff.vars.length s2) (.slice S3 s.args.length s3) (.slice S4 s.types.length s4) (.slice S5 s.effs.length s5) (.slice S6 s.regs.length s6) (.slice S7 s.modes.length s7) (.slice S8 s.keep.length s8) (.slice S9 s.blocks.length s9)).toArray 94))
 generalize hcs:(stCells s (.slice S0 s.ty.args.length s0) (.slice S1 s.ty.eff.regs.length s1) (.slice S2 s.ty.eff.vars.length s2) (.slice S3 s.args.length s3) (.slice S4 s.types.length s4) (.slice S5 s.effs.length s5) (.slice S6 s.regs.length s6) (.slice S7 s.modes.length s7) (.slice S8 s.keep.length s8) (.slice S9 s.blocks.length s9))=cs at HCS HS1 ⊢
 have HCE:=Hd.mk hcs
 have HB5:Hd (Blk ((w.alloc (.cells cs.toArray 94)).alloc (.cells #[.int .i64 a.kind, .int .i64 a.n, .string a.name, .slice D0 a.args.length d0, .int .i64 a.region, .slice D1 a.eff.regs.length d1, .slice D2 a.eff.vars.length d2] 43)) (w.alloc (.cells cs.toArray 94)).heap.size 43 (tyCells a (.slice D0 a.args.length d0) (.slice D1 a.eff.regs.length d1) (.slice D2 a.eff.vars.length d2))):=⟨Blk.new _ (tyCells a (.slice D0 a.args.length d0) (.slice D1 a.eff.regs.length d1) (.slice D2 a.eff.vars.length d2)) 43⟩
 have HS2:=Hd.mk (HS1.out.alloc (.cells #[.int .i64 a.kind, .int .i64 a.n, .string a.name, .slice D0 a.args.length d0, .int .i64 a.region, .slice D1 a.eff.regs.length d1, .slice D2 a.eff.vars.length d2] 43))
 have HCS2:=Hd.mk (HCS.out.alloc (.cells #[.int .i64 a.kind, .int .i64 a.n, .string a.name, .slice D0 a.args.length d0, .int .i64 a.region, .slice D1 a.eff.regs.length d1, .slice D2 a.eff.vars.length d2] 43))
 clear hC hK hV hA hFa hFt hln hfr ho hr hcs hP hcn hmem hd0 hdl ha4 hn
 go_enter Try.func55,Try.ntmps55
 go_wp2_with fail
 have hX5:(w.alloc (.cells cs.toArray 94)).heap.size=w.heap.size+1:=by simp
 have HFW:=Hd.mk (HS2.out.fresh HFR.out)
 have HNX:Hd (ρ w.heap.size=none∧ρ (w.heap.size+1)=none):=⟨HFR.out _ (Nat.le_refl _),HFR.out _ (by omega)⟩
 rw [hX5] at HB5
 generalize hX4:w.heap.size=X4 at *
 generalize (w.alloc (.cells cs.toArray 94)).alloc (.cells #[.int .i64 a.kind, .int .i64 a.n, .string a.name, .slice D0 a.args.length d0, .int .i64 a.region, .slice D1 a.eff.regs.length d1, .slice D2 a.eff.vars.length d2] 43)=W at *
 have HX4:=Hd.mk hX4
 clear hX4 hX5
 have HCW:=Hd.mk (HC.out.step HS2.out (fun _ _ h=>h))
 have HKW:=Hd.mk (HK.out.step HS2.out)
 obtain ⟨A1,q1,A2,q2,A3,q3,k0,k1,k2,k6,kD,kF⟩:=HKW.out.out
 have yC0:W.cell? ⟨C,0,none⟩=some (.slice A1 p.datas.length q1):=HCW.out.cell k0
 obtain ⟨bD,oD,V1,v1,V2,v2,rfl,_,hcons,_,_,z2⟩:=kD.elem HD0.out
 have HCONS:=Hd.mk hcons
 have y1:W.cell? ⟨X4+1,1,none⟩=some (.int .i64 n):=by rw [HB5.out.at, ←HNN.out];rfl
 have lC:C<W.heap.size:=HCW.out.lt
 have l4:=HCS2.out.lt
 have l5:=HB5.out.lt
 have hni:(n:Int)<p.datas.length:=by omega
 have hn0:(0:Int)≤n:=by omega
 clear k0 k1 k2 k6 kD kF hcons hnl
 go_quiet (skip)
 have hsq:=HS2.out.drewN nq
 have hdq:=(Step.refl (fun _=>False) W ρ).drewN nq
 have hb5q:=HB5.out.drewN nq
 have hcsq:=HCS2.out.drewN nq
 generalize World.drewN _ nq=Wq at *
 have HSQ:=Hd.mk hsq
 have HDQ:=Hd.mk hdq
 have HB5Q:=Hd.mk hb5q
 have HCSQ:=Hd.mk hcsq
 have HCONQ:=Hd.mk (HCONS.out.step hdq)
 have HLENC:Hd (d.cons.length≤9223372036854775807∧d.cons.length*40≤140737488355328):=⟨by
  obtain ⟨_,_,hv,h2,h3,h4,_⟩:=HCONS.out.out
  cases hv
  unfold maxLen at h3
  exact ⟨by omega,h4⟩⟩
 clear hsq hdq hb5q hcsq yC0 z2 y1 lC l4 l5 hni hn0
 have hcl1:=HLENC.out.1
 go_wp2_with fail
 go_loopw [27] (fun vk wr=>∃ k:Nat,vk= .int .i64 k∧k≤d.cons.length∧bindsFit s.blocks d.cons=bindsFit (s.blocks.drop k) (d.cons.drop k)∧Step (fun _=>False) Wq ρ wr ρ) (fun v _=>d.cons.length-(intOf v).toNat)
 case atStart=>exact ⟨0,by simp,by omega,by simp,Step.refl _ _ _⟩
 case round =>
  obtain ⟨k,rfl,hk,he,hS⟩:=hrel
  have HE:=Hd.mk he
  have HS:=Hd.mk hS
  clear he hS
  by_cases hlt:k<d.cons.length
  ·have hlti:(k:Int)<d.cons.length:=by omega
   have hk0:(0:Int)≤k:=by omega
   have hltb:k<s.blocks.length:=by have:=HLN.out;omega
   have hltbi:(k:Int)<s.blocks.length:=by omega
   obtain ⟨bc,oc,F0,f0,hcA,hTF,_,q0,q1⟩:=(HCONQ.out.step HS.out).elem (List.getElem?_eq_getElem hlt)
   obtain ⟨bL,oL,vb,vs,hLA,hRb,p0,p1,p2,p3⟩:=(HV.out.blocks.step (HSQ.out.trans HS.out)).elem (List.getElem?_eq_getElem hltb)
   obtain ⟨mN,_,_,hmN,hcsb,_,_,hbi,hst⟩:=hRb.shape
   simp only [List.cons.injEq,and_true,true_and] at hcsb
   obtain ⟨rfl,rfl⟩:=hcsb
   obtain ⟨B1,g1,rfl,_,_⟩:=SlR.form hbi
   subst hcA
   subst hLA
   have hdr:=bindsFit_drop (List.getElem?_eq_getElem hltb) (List.getElem?_eq_getElem hlt)
   generalize s.blocks[k]=b at *
   generalize d.cons[k]=x at *
   have HE2:=Hd.mk (HE.out.trans hdr)
   have lc:bc<wr.heap.size:=World.block_lt_of_cell? wr ⟨bc,_,none⟩ q0
   have lL:bL<wr.heap.size:=World.block_lt_of_cell? wr ⟨bL,_,none⟩ p1
   have e18:wr.cell? ⟨X4,18,none⟩=some (.slice (some ⟨bL,oL,none⟩) s.blocks.length s9):=(HS.out.blk HCSQ.out (fun t ht=>by rw [HNX.out.1] at ht;cases ht)).cell (i:=18) (by rw [←HCE.out];rfl)
   have l4:X4<wr.heap.size:=World.block_lt_of_cell? wr ⟨X4,_,none⟩ e18
   have HSX:=Hd.mk ((Step.refl (fun _=>False) wr ρ).alloc (.cells #[.string x.name, .slice F0 x.fields.length f0] 80))
   have HBX:Hd (Blk (wr.alloc (.cells #[.string x.name, .slice F0 x.fields.length f0] 80)) wr.heap.size 80 [.string x.name, .slice F0 x.fields.length f0]):=⟨Blk.new' _ _ _⟩
   clear hdr hRb hbi hst hmN HE hTF p0 p2 p3
   go_wp2_with fail
   have e18':=(World.cell?_alloc_lt wr (.cells #[.string x.name, .slice F0 x.fields.length f0] 80) ⟨X4,18,none⟩ l4).trans e18
   have p1':=(World.cell?_alloc_lt wr (.cells #[.string x.name, .slice F0 x.fields.length f0] 80) ⟨bL,oL+k*4+1,none⟩ lL).trans p1
   clear e18 p1 q0 q1 l4 lL lc
   generalize wr.alloc (.cells #[.string x.name, .slice F0 x.fields.length f0] 80)=W1 at *
   have u1:W1.cell? ⟨wr.heap.size,1,none⟩=some (.slice F0 x.fields.length f0):=HBX.out.cell (i:=1) rfl
   have l4:X4<W1.heap.size:=World.block_lt_of_cell? W1 ⟨X4,_,none⟩ e18'
   have lL:bL<W1.heap.size:=World.block_lt_of_cell? W1 ⟨bL,_,none⟩ p1'
   have l9:=HBX.out.lt
   generalize wr.heap.size=X9 at *
   by_cases hb:b.bind.length=x.fields.length
   ·have HQ:=Hd.mk (HS.out.trans (HSX.out.drew))
    have z1:((b.bind.length:Int) == (x.fields.length:Int))=true:=by simp [hb]
    have z2:((b.bind.length:Int) != (x.fields.length:Int))=false:=by simp [hb]
    have z3:decide ((b.bind.length:Int)=(x.fields.length:Int))=true:=by simp [hb]
    have HE3:Hd (bindsFit s.blocks d.cons=bindsFit (s.blocks.drop (k+1)) (d.cons.drop (k+1))):=⟨by rw [HE2.out];simp [hb]⟩
    clear hb
    go_quiet (skip)
    have HQN:=Hd.mk (HS.out.trans (HSX.out.drewN nq))
    generalize World.drewN _ nq=W3 at *
    go_wp2
    go_roundw
    case rel=>exact ⟨k+1,by go_num,by omega,HE3.out,HQN.out⟩
    case measure=>simp [intOf];omega
   ·have z1:((b.bind.length:Int) == (x.fields.length:Int))=false:=by simp;omega
    have z2:((b.bind.length:Int) != (x.fields.length:Int))=true:=by simp;omega
    have z3:decide ((b.bind.length:Int)=(x.fields.length:Int))=false:=by simp;omega
    have HE3:Hd (r= .no):=⟨by rw [←HR.out,HE2.out];simp [hb]⟩
    clear hb
    have hrr:=HE3.out
    subst hrr
    go_quiet (skip)
    have HQN:=Hd.mk (HSQ.out.trans (HS.out.trans (HSX.out.drewN nq)))
    generalize World.drewN _ nq=W3 at *
    go_wp2
    go_ret
    exact ⟨rfl,ρ,((CkP.refl HC.out HO.out).after HQN.out).no rfl⟩
  ·have hke:k=d.cons.length:=by omega
   subst hke
   obtain ⟨Wr,rfl⟩:∃ W,W=wr:=⟨_,rfl⟩
   have hbf:bindsFit s.blocks d.cons=true:=by rw [HE.out];exact bindsFit_nil _ _ _ (by have:=HLN.out;omega) (Nat.le_refl _)
   have hr3:=HR.out
   rw [hbf] at hr3
   have HR3:Hd (bigOf (caseBinds a.args d.cons) (fun bs=>valuesC p ty c bs s.ty s.blocks)=r):=⟨hr3⟩
   have HSR:=Hd.mk (HSQ.out.trans HS.out)
   have HB5R:=Hd.mk (HS.out.blk HB5Q.out (fun t ht=>by rw [HNX.out.2] at ht;cases ht))
   have HCSR:=Hd.mk (HS.out.blk HCSQ.out (fun t ht=>by rw [HNX.out.1] at ht;cases ht))
   have HCONR:=Hd.mk (HCONQ.out.step HS.out)
   obtain ⟨na',hna',hAr⟩:∃ m,na=m+1∧TysR Wr ρ m (.slice D0 a.args.length d0) a.args:=by
    obtain ⟨m,va,v1',v2',h1,h2,_,_,_,_,h3,_⟩:=HA.out.shape
    simp only [tyCells,List.cons.injEq,and_true,true_and] at h2
    obtain ⟨rfl,_⟩:=h2
    exact ⟨m,h1,h3.step HSR.out⟩
   have HAR:=Hd.mk hAr
   have HFRR:=Hd.mk (HSR.out.fresh HFR.out)
   have HCR:=Hd.mk (HC.out.step HSR.out (fun _ _ h=>h))
   have HKR:=Hd.mk (HK.out.step HSR.out)
   have HVR:=Hd.mk (HV.out.step HSR.out)
   clear hbf hr3 hAr hlt hk hna' HE HS
   go_wp2_with fail
   go_loopw [10,46] (fun vo vk wq=>∃ (k:Nat) (xs:List Value) (ρk:Ghost),vk= .int .i64 k∧k≤d.cons.length∧OwnSl wq ρk (33,1) 41 1 vo k xs∧FlatR 1 (LtR wq ρk (nd+na')) (bsTo a.args d.cons k) xs∧caseBinds a.args d.cons=(caseBinds a.args (d.cons.drop k)).map (bsTo a.args d.cons k++ ·)∧CaK Wr ρ wq ρk) (fun _ v _=>d.cons.length-(intOf v).toNat)
   case atStart =>
    exact ⟨0,[],ρ,by simp,by omega,OwnSl.nil _ _ _ _ _,FlatR.nil _ _,by simp [bsTo],⟨Step.refl _ _ _,fun b i h=>(HO.out b _ h).1 rfl⟩⟩
   case round =>
    obtain ⟨k,xs,ρk,rfl,hk,hO,hFl,he,hCa⟩:=hrel
    obtain ⟨G,cg,rfl,hcg1,hcg2⟩:=hO.form
    have HO1:=Hd.mk hO
    have HFL:=Hd.mk hFl
    have HE:=Hd.mk he
    have HCA:=Hd.mk hCa
    clear hO hFl he hCa hcg1 hcg2
    obtain ⟨Wq,rfl⟩:∃ W,W=wr:=⟨_,rfl⟩
    by_cases hlt:k<d.cons.length
    ·have hlti:(k:Int)<d.cons.length:=by omega
     have hk0:(0:Int)≤k:=by omega
     obtain ⟨bc,oc,F0,f0,hcA,hTF,_,q0,q1⟩:=(HCONR.out.step HCA.out.step).elem (List.getElem?_eq_getElem hlt)
     subst hcA
     have hdr:=caseBinds_drop (ag:=a.args) (List.getElem?_eq_getElem hlt)
     have hbs:=bsTo_succ (ag:=a.args) (List.getElem?_eq_getElem hlt)
     have hFx:=HFC.out _ (List.getElem_mem hlt)
     generalize d.cons[k]=x at *
     have hE2:=HE.out
     rw [hdr] at hE2
     have HE2b:=Hd.mk hE2
     have HBS:=Hd.mk hbs
     have HFX:=Hd.mk hFx
     have HTF:=Hd.mk hTF
     have hxl:x.fields.length≤9223372036854775807:=by
      obtain ⟨_,_,hv,h2,h3,_⟩:=hTF.out
      cases hv
      unfold maxLen at h3
      omega
     have lc:bc<Wq.heap.size:=World.block_lt_of_cell? Wq ⟨bc,_,none⟩ q0
     have HSX:=Hd.mk ((Step.refl (fun _=>False) Wq ρk).alloc (.cells #[.string x.name, .slice F0 x.fields.length f0] 80))
     have HBX:Hd (Blk (Wq.alloc (.cells #[.string x.name, .slice F0 x.fields.length f0] 80)) Wq.heap.size 80 [.string x.name, .slice F0 x.fields.length f0]):=⟨Blk.new' _ _ _⟩
     have HXN:Hd (ρk Wq.heap.size=none):=⟨HCA.out.step.fresh HFRR.out _ (Nat.le_refl _)⟩
     clear hdr hbs hFx hE2 HE hTF
     go_wp2_with fail
     generalize Wq.alloc (.cells #[.string x.name, .slice F0 x.fields.length f0] 80)=W1 at *
     generalize Wq.heap.size=X9 at *
     obtain ⟨al,hal⟩:∃ z,x.fields.all (fun f=>decide (0≤room1 a.args 256 1 f))=z:=⟨_,rfl⟩
     have HAL:=Hd.mk hal
     clear hal q0 q1 lc
     go_loopw [53] (fun vj wr=>∃ j:Nat,vj= .int .i64 j∧j≤x.fields.length∧x.fields.all (fun f=>decide (0≤room1 a.args 256 1 f))=(x.fields.drop j).all (fun f=>decide (0≤room1 a.args 256 1 f))∧Step (fun _=>False) W1 ρk wr ρk) (fun v _=>x.fields.length-(intOf v).toNat)
     case atStart=>exact ⟨0,by simp,by omega,by simp,Step.refl _ _ _⟩
     case round =>
      obtain ⟨j,rfl,hj,he,hS⟩:=hrel
      have HE:=Hd.mk he
      have HS:=Hd.mk hS
      clear he hS
      have HSK:=Hd.mk (HCA.out.step.trans ((HSX.out.trans HS.out).mono (fun _ h=>h.elim)))
      have HCX:=Hd.mk (HCR.out.step HSK.out (fun t ht h=>by rw [h] at ht;rcases ht with e|e|e <;> cases e))
      have HB5X:=Hd.mk (HSK.out.blk HB5R.out (fun t ht=>by rw [HNX.out.2] at ht;cases ht))
      have y3:wr.cell? ⟨X4+1,3,none⟩=some (.slice D0 a.args.length d0):=HB5X.out.cell (i:=3) rfl
      have l5:=HB5X.out.lt
      have HAX:=Hd.mk (HAR.out.step HSK.out)
      by_cases hltj:j<x.fields.length
      ·have hltji:(j:Int)<x.fields.length:=by omega
       have hj0:(0:Int)≤j:=by omega
       obtain ⟨bN,oN,mN,E0,g0,E1,g1,E2,g2,hNA,hmN,hRN,hTN,hcN⟩:=(HTF.out.step (HSX.out.trans HS.out)).elemC (List.getElem?_eq_getElem hltj)
       cases hNA
       have hdr:=allRoom_drop (ag:=a.args) (List.getElem?_eq_getElem hltj)
       have hFf:=formedL_get HFX.out (List.getElem?_eq_getElem hltj)
       generalize x.fields[j]=t at *
       have p0:=hcN 0 _ rfl
       have p1:=hcN 1 _ rfl
       have p2:=hcN 2 _ rfl
       have p3:=hcN 3 _ rfl
       have p4:=hcN 4 _ rfl
       have p5:=hcN 5 _ rfl
       have p6:=hcN 6 _ rfl
       rw [Nat.add_zero] at p0
       have lN:bN<wr.heap.size:=World.block_lt_of_cell? wr ⟨bN,_,none⟩ p0
       have hs4:=(Step.refl (fun _=>False) wr ρk).alloc (.cells #[.int .i64 t.kind, .int .i64 t.n, .string t.name, .slice E0 t.args.length g0, .int .i64 t.region, .slice E1 t.eff.regs.length g1, .slice E2 t.eff.vars.length g2] 43)
       have hcall:Calls Try.prog 59 #[.agg #[.int .i64 t.kind, .int .i64 t.n, .string t.name, .slice E0 t.args.length g0, .int .i64 t.region, .slice E1 t.eff.regs.length g1, .slice E2 t.eff.vars.length g2], .slice D0 a.args.length d0, .int .i64 256, .int .i64 1] (wr.alloc (.cells #[.int .i64 t.kind, .int .i64 t.n, .string t.name, .slice E0 t.args.length g0, .int .i64 t.region, .slice E1 t.eff.regs.length g1, .slice E2 t.eff.vars.length g2] 43)) fun e w'=>e= .returned (.int .i64 (room1 a.args 256 1 t))∧Below (wr.alloc (.cells #[.int .i64 t.kind, .int .i64 t.n, .string t.name, .slice E0 t.args.length g0, .int .i64 t.region, .slice E1 t.eff.regs.length g1, .slice E2 t.eff.vars.length g2] 43)).heap.size (wr.alloc (.cells #[.int .i64 t.kind, .int .i64 t.n, .string t.name, .slice E0 t.args.length g0, .int .i64 t.region, .slice E1 t.eff.regs.length g1, .slice E2 t.eff.vars.length g2] 43)) w':=room1_any _ _ p.datas a.args D0 d0 _ ρk t E0 E1 E2 g0 g1 g2 256 1 (TyR.step hs4 _ hRN) (HAX.out.step hs4) hFf (by decide) (by decide) (by decide)
       obtain ⟨z,hz⟩:∃ z,room1 a.args 256 1 t=z:=⟨_,rfl⟩
       rw [hz] at hcall hdr
       have HCALL:=Hd.mk hcall
       have HS4:=Hd.mk hs4
       have hE2:=HE.out.trans hdr
       have HE2:=Hd.mk hE2
       clear hRN hTN hcN hmN hdr hFf hcall hz hE2 HE hs4
       by_cases hz0:z<0
       ·have HE3:Hd (caseBinds a.args d.cons=none):=⟨by
         have h1:=HE2.out
         rw [show decide (0≤z)=false by simp;omega,Bool.false_and] at h1
         have h2:=HE2b.out
         rw [h1] at h2
         exact h2⟩
        have hrr:r= .big:=by rw [←HR3.out,HE3.out];rfl
        subst hrr
        go_wp2_with fail
        refine HCALL.out.mono ?_
        rintro e W5 ⟨rfl,hd5⟩
        have HS5:=Hd.mk (HSK.out.trans ((HS4.out.trans (Step.ofBelow ρk hd5)).mono (fun _ h=>h.elim)))
        have hc5:=HCX.out.step (HS4.out.trans (Step.ofBelow ρk hd5)) (fun _ _ h=>h)
        have HC5:=Hd.mk hc5
        obtain ⟨_,_,_,_,v25,_,_,fr25,_⟩:=hc5.form
        have f25:=fr25 25
        have l25:=hc5.lt
        clear hd5 HCALL hc5 fr25 y3 l5 p0 p1 p2 p3 p4 p5 p6 lN
        go_wp2
        go_ret
        obtain ⟨g1,g2⟩:=HC5.out.setBig HMB.out
        have hst:Step CkT w ρ (W5.setCell ⟨C,25,none⟩ (.bool true)) ρk:=((HSR.out.mono (fun _ h=>h.elim)).trans (HS5.out.noT (RowT.not HO.out))).trans g2
        exact ⟨ρk.ck,rfl,hst.ck HO.out,Ghost.ck_only _,c,g1.ck,Nat.le_refl _,fun c1 h=>by cases h⟩
       ·have HE3:Hd (x.fields.all (fun f=>decide (0≤room1 a.args 256 1 f))=(x.fields.drop (j+1)).all (fun f=>decide (0≤room1 a.args 256 1 f))):=⟨by
         rw [HE2.out,show decide (0≤z)=true by simp;omega,Bool.true_and]⟩
        go_wp2_with fail
        refine HCALL.out.mono ?_
        rintro e W5 ⟨rfl,hd5⟩
        have HS5:=Hd.mk (HS.out.trans (HS4.out.trans (Step.ofBelow ρk hd5)))
        clear hd5 HCALL
        go_wp2
        go_roundw
        case rel=>exact ⟨j+1,by go_num,by omega,HE3.out,HS5.out⟩
        case measure=>simp [intOf];omega
      ·have hje:j=x.fields.length:=by omega
       subst hje
       have hE3:=HE.out
       rw [List.drop_length,List.all_nil] at hE3
       have hE4:=HE2b.out
       rw [hE3,if_pos rfl,Option.map_map] at hE4
       have HE4:Hd (caseBinds a.args d.cons=(caseBinds a.args (d.cons.drop (k+1))).map (bsTo a.args d.cons (k+1)++ ·)):=⟨by
        rw [hE4,HBS.out]
        congr 1
        funext m
        simp⟩
       have hbx:=HS.out.blk HBX.out (fun t ht=>by rw [HXN.out] at ht;cases ht)
       have u1:wr.cell? ⟨X9,1,none⟩=some (.slice F0 x.fields.length f0):=hbx.cell (i:=1) rfl
       have l9:=hbx.lt
       have hcall:=at_any nd na' wr ρk p.datas x.fields a.args F0 D0 f0 d0 (HTF.out.step (HSX.out.trans HS.out)) HAX.out HFX.out (HSK.out.fresh HFRR.out) (fun b i _=>HCA.out.no b i)
       have HCALL:=Hd.mk hcall
       clear hE3 hE4 hbx hcall
       go_wp2_with fail
       refine HCALL.out.mono ?_
       rintro e W5 ⟨A',c',rfl,hT5,hd5⟩
       have hs5:Step (fun _=>False) Wq ρk W5 ρk:=HSX.out.trans (HS.out.trans (Step.ofBelow ρk hd5))
       have HS5:=Hd.mk hs5
       have HT5:=Hd.mk hT5
       have HO5:=Hd.mk (HO1.out.step hs5 (fun h=>h))
       clear hd5 HCALL hs5 hT5 u1 l9 y3 l5
       have hk24:(k+1)*24≤140737488355328:=by have:=HLENC.out.2;omega
       have hkm:k+1≤maxLen:=by unfold maxLen;have:=HLENC.out.1;omega
       go_wp2_with (at_builtin;refine wpList_append_boxW rfl _ _ _ rfl 41 _ 1 24 Try.underlying122 infoSl rfl (by decide) ρk (33,1) (.slice G k cg) k xs [.slice A' x.fields.length c'] rfl HO5.out 1 _ rfl (by first|rfl|simp) rfl (by simp [Value.oneCell']) hkm hk24 ?zo)
       case zo =>
       intro v1 W6 ρ6' hO6 hS6
       obtain ⟨ρ6,hO7,hS7,hN7⟩:=hO6.retag hS6
       obtain ⟨G6,c6,rfl,_⟩:=hO7.form
       have HO7:=Hd.mk hO7
       have HS7:=Hd.mk hS7
       have HN7:Hd (AtNo ρ6):=⟨fun b i he=>by
        by_cases hb:b<W5.heap.size
        ·exact HCA.out.no b i ((hS7.ghost b hb) ▸ he)
        ·rcases hN7 b (by omega) with h|h <;> rw [h] at he <;> cases he⟩
       clear hO6 hS6 hO7 hS7 hN7 hk24 hkm
       go_wp2
       go_roundw
       case rel =>
        refine ⟨k+1,_,ρ6,by go_num,by omega,HO7.out,?_,HE4.out,⟨HCA.out.step.trans ((HS5.out.mono (fun _ h=>h.elim)).trans HS7.out),HN7.out⟩⟩
        rw [HBS.out]
        exact (HFL.out.imp (fun _ _ _ h=>(h.step HS5.out).step HS7.out)).snoc rfl ⟨A',c',by rw [atL_len],by rw [atL_len];exact HT5.out.step HS7.out⟩
       case measure=>simp [intOf];omega
    ·have hke:k=d.cons.length:=by omega
     subst hke
     have hE:=HE.out
     rw [List.drop_length,caseBinds,Option.map_some,List.append_nil] at hE
     have hr4:=HR3.out
     rw [hE] at hr4
     have hSK:=HCA.out.step
     have hSC:Step CkT Wr ρ Wq ρk.ck:=(hSK.noT (RowT.not HO.out)).ck HO.out
     have hrw:LtsR Wq ρk.ck (nd+na') (.slice G d.cons.length cg) (bsTo a.args d.cons d.cons.length):=LtsR.of_row (HFL.out.imp (fun _ _ _ h=>h.ghost (fun b hb=>Ghost.ck_none hb))) HO1.out (bsTo_len _ _ (Nat.le_refl _)) (fun g hg=>by unfold Ghost.ck;rw [hg];rfl) (by have:=HLENC.out.2;omega)
     have hfo:=formed_bsTo (k:=d.cons.length) HFA.out HFC.out
     have hlb:=bsTo_len a.args d.cons (Nat.le_refl _)
     generalize bsTo a.args d.cons d.cons.length=bs at *
     rw [←hlb] at hrw
     have hCk:=(HCR.out.step hSK (fun t ht h=>by rw [h] at ht;rcases ht with e|e|e <;> cases e)).ck
     have hcs4:=hSK.blk HCSR.out (fun t ht=>by rw [HNX.out.1] at ht;cases ht)
     have hcall:=blocks_any p ty nd N HBC Wq ρk.ck C hd mb c s.blocks bs s.ty S9 G s9 cg (nd+na') N S0 S1 S2 s0 s1 s2 hCk (HKR.out.step hSC) (HVR.out.blocks.step hSC) hrw (by rw [hlb];exact HLN.out.symm) hfo (TyR.step hSC _ HVR.out.ty) (hSC.fresh HFRR.out) (Ghost.ck_only _)
     rw [hlb] at hcall
     have hr5:valuesC p ty c bs s.ty s.blocks=r:=hr4
     rw [hr5] at hcall
     have HCALL:=Hd.mk hcall
     have HP0:Hd (CkP (fun t=>formed1 p.datas ty t=true) w ρ Wq ρk.ck C hd mb c (.ok c)):=⟨⟨(HSR.out.mono (fun _ h=>h.elim)).trans hSC,Ghost.ck_only _,c,hCk,Nat.le_refl _,fun c1 h=>by cases h;rfl⟩⟩
     have HCS4:=Hd.mk hcs4
     have x2:Wq.cell? ⟨X4,2,none⟩=some (.int .i64 s.ty.kind):=hcs4.cell (i:=2) (by rw [←HCE.out];rfl)
     have x3:Wq.cell? ⟨X4,3,none⟩=some (.int .i64 s.ty.n):=hcs4.cell (i:=3) (by rw [←HCE.out];rfl)
     have x4:Wq.cell? ⟨X4,4,none⟩=some (.string s.ty.name):=hcs4.cell (i:=4) (by rw [←HCE.out];rfl)
     have x5:Wq.cell? ⟨X4,5,none⟩=some (.slice S0 s.ty.args.length s0):=hcs4.cell (i:=5) (by rw [←HCE.out];rfl)
     have x6:Wq.cell? ⟨X4,6,none⟩=some (.int .i64 s.ty.region):=hcs4.cell (i:=6) (by rw [←HCE.out];rfl)
     have x7:Wq.cell? ⟨X4,7,none⟩=some (.slice S1 s.ty.eff.regs.length s1):=hcs4.cell (i:=7) (by rw [←HCE.out];rfl)
     have x8:Wq.cell? ⟨X4,8,none⟩=some (.slice S2 s.ty.eff.vars.length s2):=hcs4.cell (i:=8) (by rw [←HCE.out];rfl)
     have x18:Wq.cell? ⟨X4,18,none⟩=some (.slice S9 s.blocks.length s9):=hcs4.cell (i:=18) (by rw [←HCE.out];rfl)
     have l4:=hcs4.lt
     clear hE hr4 hr5 hSK hSC hrw hfo hlb hCk hcs4 hcall hlt hk
     go_wp2_with fail
     refine HCALL.out.mono ?_
     rintro e W5 ⟨ρ5,rfl,hP5⟩
     have HP5:=Hd.mk (HP0.out.andThen hP5)
     clear hP5 HCALL
     go_wp2
     go_ret
     exact ⟨ρ5,rfl,HP5.out⟩
end Go.Proofs.Ytadffbgbndibpaa
