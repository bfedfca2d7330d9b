/- RnI, RnJ, RnK, RnL, RnM: lemmas and walks of the claim. -/
import Derived.Test.YtadffbgbndibpaaKRnH
set_option linter.unusedSectionVars false
set_option linter.unusedVariables false
set_option linter.unusedSimpArgs false
set_option maxHeartbeats 16000000
set_option maxRecDepth 100000
namespace Go.Proofs.Ytadffbgbndibpaa
section
open Go Go.RowKit
theorem FrR.cells {w:World} {ρ:Ghost} {B:List Nat} {G gc:Nat} {fr:Fr} (h:FrR w ρ B G gc fr) {i:Nat} {v:Vl} (hi:fr[i]? =some v) :
 w.cell? ⟨G,i*2,none⟩=some (.int .i64 v.word)∧w.cell? ⟨G,i*2+1,none⟩=some (.pointer (ptrV B v))∧(∀ j,w.frozen? ⟨G,j,none⟩=false)∧VOk B.length v:=by
 have hlt:=(List.getElem?_eq_some_iff.1 hi).1
 obtain ⟨g,c,hv,_,_,_,h1,h2,_⟩:=h.own.some (by omega)
 cases hv
 obtain ⟨h3,h4⟩:=flatV_get B hi
 exact ⟨(h1 _ (by omega)).trans h3,(h1 _ (by omega)).trans h4,h2,h.ok v (List.mem_of_getElem? hi)⟩
theorem valSlice_12 (w:World) (b n c:Nat) (hn:2≤c):(Instr.slice 61 (.slice (some ⟨b,0,none⟩) n c) (some (.int .i64 1)) (some (.int .i64 2)) none).run Try.prog w= .ok (.slice (some ⟨b,2,none⟩) 1 (c-1)) w:=by
 rw [run_slice_lh w 61 _ n c (by kernel_rfl) .i64 .i64 1 2 (by omega) (by omega) (by omega),valSize]
 simp only [Result.andThen_ok,sliced,Option.map_some,add_plainS]
 rw [if_neg (by show ¬c=1;omega)]
 rfl
theorem FrR.cap {w:World} {ρ:Ghost} {B:List Nat} {G gc:Nat} {fr:Fr} (h:FrR w ρ B G gc fr):fr.length≤gc:=by
 obtain ⟨_,_,hv,h1,_⟩:=h.own.form
 cases hv
 exact h1
theorem RunP.fin {p:Pg} {n N:Nat} {szs:List Int} {fuel:Int} {R:Nat} {w W2:World} {ρ ρ2:Ghost} {B B':List Nat} {T:Tag→Prop} {a:Ans} {h':Hp} {S:Nat} {u0 u1:Value} {s:Option Addr} (h:Step T w ρ W2 ρ2) (hS:w.heap.size≤S) (ht:ρ2 S=some (43,S)) (hr:RnR p n N szs fuel R W2 ρ2 h' (B++B')) (ha:AnsR W2 ρ2 (B++B') a (.agg #[u0,u1]) s) (hg:OkG ρ2) :
 RunP p n N szs fuel R w ρ B T a h' (.returned (.tuple #[.agg #[u0,u1], .pointer s])) ((W2.setCell ⟨S,0,none⟩ u0).setCell ⟨S,1,none⟩ u1):=by
 have hs:Step (· =((43,S):Tag)) W2 ρ2 ((W2.setCell ⟨S,0,none⟩ u0).setCell ⟨S,1,none⟩ u1) ρ2 :=
  Step.setCell (T:=(· =((43,S):Tag))) (a:=⟨S,1,none⟩) (t:=(43,S)) (Step.setCell (T:=(· =((43,S):Tag))) (a:=⟨S,0,none⟩) (t:=(43,S)) (Step.refl _ W2 ρ2) ht rfl _) ht rfl _
 exact ⟨ρ2,B',_,_,rfl,ha.step hs,hr.step hs (fun t h1 h2=>by rw [h2] at h1;rcases h1 with h1|h1|h1 <;> cases h1),(h.setCell_new (a:=⟨S,0,none⟩) hS _).setCell_new (a:=⟨S,1,none⟩) hS _,hg⟩
theorem I64_lit (x:Int) (h1: -9223372036854775808≤x) (h2:x≤9223372036854775807):I64 x:=⟨h1,h2⟩
section
variable (p:Pg) (n N:Nat) (szs:List Int) (fuel:Int) (R:Nat) (w:World) (ρ:Ghost) (h:Hp) (B:List Nat) (hr:RnR p n N szs fuel R w ρ h B) (hfr:Fresh w ρ) (hG:OkG ρ) (X ac:Nat)
include p n N szs fuel R w ρ h B hr hfr hG X ac
section
variable (a v:Vl) (l:List Vl) (hF:FrR w ρ B X ac (a :: v :: l))
include a v l hF
theorem array_size (hw:a.word<0∨a.word > 4096) :
 Calls Try.prog 46 #[.pointer (some ⟨R,0,none⟩), .int .i64 12, .slice (some ⟨X,0,none⟩) (a :: v :: l).length ac] w (RunP p n N szs fuel R w ρ B RunQ (.error ⟨2,a.word⟩) h):=by
 have HRN:=Hd.mk hr
 have HFR:=Hd.mk hfr
 have HG:=Hd.mk hG
 have HFA:=Hd.mk hF
 have HS:=Hd.mk (Step.refl (fun _=>False) w ρ)
 obtain ⟨c0,c1,_,hva⟩:=hF.cells (i:=0) (v:=a) rfl
 obtain ⟨c2,c3,_,hvv⟩:=hF.cells (i:=1) (v:=v) rfl
 have lX:=hF.lt
 rw [Nat.zero_mul] at c0 c1
 simp only [Nat.one_mul,Nat.zero_add] at c1 c2 c3
 have hcap:=hF.cap
 simp only [List.length_cons] at hcap ⊢
 have hl2:(0:Int)<(l.length:Int)+1+1:=by omega
 have hl3:(1:Int)<(l.length:Int)+1+1:=by omega
 have HVA:=Hd.mk hva
 have HVV:=Hd.mk hvv
 clear c1 hva hvv
 have HW:=Hd.mk hw
 clear hw c2 c3 hcap
 by_cases hw1:a.word<0
 ·have w1:decide (a.word<0)=true:=decide_eq_true hw1
  clear hr hfr hG hF
  go_enter Try.func46,Try.ntmps46
  go_wp2
  refine bodyPost_ret (results_cell2 rfl _ _ w.heap.size [.int .i64 0, .pointer none] rfl ?_ Try.underlying64 rfl) rfl ?_
  ·exact (Blk.new' w #[.int .i64 0, .pointer none] _).alloc _
  ·have hs2:=(HS.out.alloc (.cells #[.int .i64 0, .pointer none] 64)).alloc (.cells #[.int .i64 2, .int .i64 a.word] 69)
   have hz:(w.alloc (.cells #[.int .i64 0, .pointer none] 64)).heap.size=w.heap.size+1:=by simp
   refine ⟨ρ,[],_,_,rfl,⟨w.heap.size+1,rfl,rfl,HFR.out _ (by omega),?_,I64_lit (2) (by decide) (by decide),HVA.out.1⟩,by rw [List.append_nil];exact HRN.out.step hs2 (fun _ _ h=>h),hs2.mono (fun _ h=>h.elim),HG.out⟩
   exact Blk.newAt hz [.int .i64 2, .int .i64 a.word] 69
 ·have w1:decide (a.word<0)=false:=decide_eq_false hw1
  have hw2:(4096:Int)<a.word:=by have:=HW.out;omega
  have w2:decide ((4096:Int)<a.word)=true:=decide_eq_true hw2
  have w3:decide (a.word > (4096:Int))=true:=decide_eq_true hw2
  clear hr hfr hG hF
  go_enter Try.func46,Try.ntmps46
  go_wp2
  refine bodyPost_ret (results_cell2 rfl _ _ w.heap.size [.int .i64 0, .pointer none] rfl ?_ Try.underlying64 rfl) rfl ?_
  ·exact (Blk.new' w #[.int .i64 0, .pointer none] _).alloc _
  ·have hs2:=(HS.out.alloc (.cells #[.int .i64 0, .pointer none] 64)).alloc (.cells #[.int .i64 2, .int .i64 a.word] 69)
   have hz:(w.alloc (.cells #[.int .i64 0, .pointer none] 64)).heap.size=w.heap.size+1:=by simp
   refine ⟨ρ,[],_,_,rfl,⟨w.heap.size+1,rfl,rfl,HFR.out _ (by omega),?_,I64_lit (2) (by decide) (by decide),HVA.out.1⟩,by rw [List.append_nil];exact HRN.out.step hs2 (fun _ _ h=>h),hs2.mono (fun _ h=>h.elim),HG.out⟩
   exact Blk.newAt hz [.int .i64 2, .int .i64 a.word] 69
theorem array_fuel (h0:0≤a.word) (h1:a.word≤4096) (hsp:fuel<h.ticks+a.word) :
 Calls Try.prog 46 #[.pointer (some ⟨R,0,none⟩), .int .i64 12, .slice (some ⟨X,0,none⟩) (a :: v :: l).length ac] w (RunP p n N szs fuel R w ρ B RunQ (.error fuelSg) { h with ticks:=fuel }):=by
 have HRN:=Hd.mk hr
 have HFR:=Hd.mk hfr
 have HG:=Hd.mk hG
 have HFA:=Hd.mk hF
 have HS:=Hd.mk (Step.refl (fun _=>False) w ρ)
 obtain ⟨c0,c1,_,hva⟩:=hF.cells (i:=0) (v:=a) rfl
 obtain ⟨c2,c3,_,hvv⟩:=hF.cells (i:=1) (v:=v) rfl
 have lX:=hF.lt
 rw [Nat.zero_mul] at c0 c1
 simp only [Nat.one_mul,Nat.zero_add] at c1 c2 c3
 have hcap:=hF.cap
 simp only [List.length_cons] at hcap ⊢
 have hl2:(0:Int)<(l.length:Int)+1+1:=by omega
 have hl3:(1:Int)<(l.length:Int)+1+1:=by omega
 have HVA:=Hd.mk hva
 have HVV:=Hd.mk hvv
 clear c1 hva hvv
 have w1:decide (a.word<0)=false:=decide_eq_false (by omega)
 have w2:decide ((4096:Int)<a.word)=false:=decide_eq_false (by omega)
 have w3:decide (a.word > (4096:Int))=false:=decide_eq_false (by omega)
 have HS1:=Hd.mk ((Step.refl (fun _=>False) w ρ).alloc_tag (.cells #[.int .i64 0, .pointer none] 64) (43,w.heap.size))
 have HB0:Hd (Blk (w.alloc (.cells #[.int .i64 0, .pointer none] 64)) w.heap.size 64 [.int .i64 0, .pointer none]):=⟨Blk.new' _ _ _⟩
 have HT0:Hd (ρ.put w.heap.size (43,w.heap.size) w.heap.size=some (43,w.heap.size)):=⟨Ghost.put_same _ _ _⟩
 have HG1:Hd (OkG (ρ.put w.heap.size (43,w.heap.size))):=⟨hG.frame _⟩
 have HCALL:=Hd.mk (spend_no p n N szs fuel R _ _ h B a.word (hr.step HS1.out (fun _ _ h=>h)) (HS1.out.fresh hfr) h0 (by omega) hsp)
 clear hsp h0 h1 c2 c3 hcap
 clear hr hfr hG hF
 go_enter Try.func46,Try.ntmps46
 go_wp2_with fail
 refine HCALL.out.mono ?_
 rintro e W2 ⟨X2,rfl,hr2,hs2,hg2⟩
 have HRN2:=Hd.mk hr2
 have HS2:=Hd.mk ((HS1.out.mono (fun _ h=>h.elim)).trans hs2)
 have hb2:=hs2.blk' HB0.out HT0.out (by simp)
 have HT2:=Hd.mk (hs2.tag HB0.out.lt HT0.out)
 have HB2:=Hd.mk hb2
 have q0:W2.cell? ⟨w.heap.size,0,none⟩=some (.int .i64 0):=hb2.cell (i:=0) rfl
 have q1:W2.cell? ⟨w.heap.size,1,none⟩=some (.pointer none):=hb2.cell (i:=1) rfl
 have g0:=hb2.free 0
 have g1:=hb2.free 1
 have l2:=hb2.lt
 have HG2:=Hd.mk hg2
 clear hr2 hs2 hg2 hb2 HCALL
 go_wp2
 refine bodyPost_ret (results_cell2 rfl _ _ w.heap.size [.int .i64 0, .pointer none] rfl ?_ Try.underlying64 rfl) rfl ?_
 ·exact (HB2.out.setCell 0 _).setCell 1 _
 ·refine RunP.fin (B':=[]) (HS2.out.mono (fun t h=> .inl (by rw [h]))) (Nat.le_refl _) HT2.out (by rw [List.append_nil];exact HRN2.out) ⟨_,rfl,rfl,HG2.out⟩ (HG.out.frame _)
theorem array_make (h0:0≤a.word) (h1:a.word≤4096) (hsp:h.ticks+a.word≤fuel) :
 Calls Try.prog 46 #[.pointer (some ⟨R,0,none⟩), .int .i64 12, .slice (some ⟨X,0,none⟩) (a :: v :: l).length ac] w (RunP p n N szs fuel R w ρ B RunQ (.ok ⟨0,some h.cells.length⟩) { h with ticks:=h.ticks+a.word,cells:=h.cells++[⟨0,List.replicate a.word.toNat v,none⟩] }):=by
 have HRN:=Hd.mk hr
 have HFR:=Hd.mk hfr
 have HG:=Hd.mk hG
 have HFA:=Hd.mk hF
 have HS:=Hd.mk (Step.refl (fun _=>False) w ρ)
 obtain ⟨c0,c1,_,hva⟩:=hF.cells (i:=0) (v:=a) rfl
 obtain ⟨c2,c3,_,hvv⟩:=hF.cells (i:=1) (v:=v) rfl
 have lX:=hF.lt
 rw [Nat.zero_mul] at c0 c1
 simp only [Nat.one_mul,Nat.zero_add] at c1 c2 c3
 have hcap:=hF.cap
 simp only [List.length_cons] at hcap ⊢
 have hl2:(0:Int)<(l.length:Int)+1+1:=by omega
 have hl3:(1:Int)<(l.length:Int)+1+1:=by omega
 have HVA:=Hd.mk hva
 have HVV:=Hd.mk hvv
 clear c1 hva hvv
 have w1:decide (a.word<0)=false:=decide_eq_false (by omega)
 have w2:decide ((4096:Int)<a.word)=false:=decide_eq_false (by omega)
 have w3:decide (a.word > (4096:Int))=false:=decide_eq_false (by omega)
 have HS1:=Hd.mk ((Step.refl (fun _=>False) w ρ).alloc_tag (.cells #[.int .i64 0, .pointer none] 64) (43,w.heap.size))
 have HB0:Hd (Blk (w.alloc (.cells #[.int .i64 0, .pointer none] 64)) w.heap.size 64 [.int .i64 0, .pointer none]):=⟨Blk.new' _ _ _⟩
 have HT0:Hd (ρ.put w.heap.size (43,w.heap.size) w.heap.size=some (43,w.heap.size)):=⟨Ghost.put_same _ _ _⟩
 have HG1:Hd (OkG (ρ.put w.heap.size (43,w.heap.size))):=⟨hG.frame _⟩
 have HCALL:=Hd.mk (spend_ok p n N szs fuel R _ _ h B a.word (hr.step HS1.out (fun _ _ h=>h)) h0 (by omega) hsp)
 have HF1:=Hd.mk (hF.step HS1.out (fun h=>h))
 obtain ⟨m,hm⟩:=Int.eq_ofNat_of_zero_le h0
 have HM:=Hd.mk (And.intro hm h1)
 have hsl:∀ W,(Instr.slice 61 (.slice (some ⟨X,0,none⟩) (l.length+1+1) ac) (some (.int .i64 1)) (some (.int .i64 2)) none).run Try.prog W= .ok (.slice (some ⟨X,2,none⟩) 1 (ac-1)) W:=fun W=>valSlice_12 W X _ ac (by omega)
 clear hsp h0 h1 c2 c3 hcap hm
 clear hr hfr hG hF
 go_enter Try.func46,Try.ntmps46
 go_wp2_with fail
 refine HCALL.out.mono ?_
 rintro e W2 ⟨rfl,hr2,hs2⟩
 have HRN2:=Hd.mk hr2
 have HS2:=Hd.mk ((HS1.out.mono (fun _ h=>h.elim)).trans hs2)
 have hb2:=hs2.blk' HB0.out HT0.out (by simp)
 have HT2:=Hd.mk (hs2.tag HB0.out.lt HT0.out)
 have HB2:=Hd.mk hb2
 have q0:W2.cell? ⟨w.heap.size,0,none⟩=some (.int .i64 0):=hb2.cell (i:=0) rfl
 have q1:W2.cell? ⟨w.heap.size,1,none⟩=some (.pointer none):=hb2.cell (i:=1) rfl
 have g0:=hb2.free 0
 have g1:=hb2.free 1
 have l2:=hb2.lt
 have hF2:=HF1.out.step hs2 (by simp)
 obtain ⟨d2,d3,_,_⟩:=hF2.cells (i:=1) (v:=v) rfl
 simp only [Nat.one_mul] at d2 d3
 have hm2:m≤4096:=by have:=HM.out;omega
 have hrep:=repeat_any W2 (ρ.put w.heap.size (43,w.heap.size)) X 2 (ac-1) m v B hm2 d2 d3 hF2.lt ((HS1.out.fresh HFR.out) |> hs2.fresh) HG1.out
 have hmw:a.word=(m:Int):=HM.out.1
 rw [←hmw] at hrep
 have HREP:=Hd.mk hrep
 clear hr2 hs2 hb2 HCALL hF2 d2 d3 hm2 hrep hmw q0 q1 g0 g1
 go_wp2_with fail
 clear l2
 refine HREP.out.mono ?_
 rintro e W3 ⟨X3,rfl,hx3,hO3⟩
 obtain ⟨hO4,hS4⟩:=hO3 (42,h.cells.length)
 have hr3:=HRN2.out.step hS4 (fun _ _ h=>h)
 have hb3:=hS4.blk' HB2.out HT2.out (fun h=>h)
 have HT3:=Hd.mk (hS4.tag HB2.out.lt HT2.out)
 have HG3:Hd (OkG ((ρ.put w.heap.size (43,w.heap.size)).put X3 (42,h.cells.length))):=⟨HG1.out.row _ _⟩
 have HS3:=Hd.mk (HS2.out.trans (hS4.mono (fun _ h=>h.elim)))
 generalize (ρ.put w.heap.size (43,w.heap.size)).put X3 (42,h.cells.length)=ρ3 at *
 have hmw:a.word=(m:Int):=HM.out.1
 have HRL:Hd (a.word.toNat=m):=⟨by rw [hmw];exact Int.toNat_natCast m⟩
 have hll:(List.replicate m v).length=m:=List.length_replicate
 have hrow:OwnSl W3 ρ3 (42,h.cells.length) 64 2 (.slice (some ⟨X3,0,none⟩) (List.replicate m v).length m) (List.replicate m v).length (flatV B (List.replicate m v)):=by rw [hll];exact hO4
 have hnc:=hr3.newCell ⟨0,List.replicate m v,none⟩ (some ⟨X3,0,none⟩) m none hrow rfl (I64_lit 0 (by decide) (by decide)) (fun u hu=>by rw [(List.mem_replicate.1 hu).2];exact HVV.out) (by rw [hll];have:=HM.out;omega)
 simp only [hll] at hnc
 have HNC:=Hd.mk hnc
 have HB3:=Hd.mk hb3
 have q0:W3.cell? ⟨w.heap.size,0,none⟩=some (.int .i64 0):=hb3.cell (i:=0) rfl
 have q1:W3.cell? ⟨w.heap.size,1,none⟩=some (.pointer none):=hb3.cell (i:=1) rfl
 have g0:=hb3.free 0
 have g1:=hb3.free 1
 have l3:=hb3.lt
 have HLN:=Hd.mk HRN2.out.len
 clear hO3 hO4 hS4 hr3 hb3 hmw hll hrow hnc hx3
 go_wp2
 refine bodyPost_ret (results_cell2 rfl _ _ w.heap.size [.int .i64 0, .pointer (some ⟨W3.heap.size,0,none⟩)] rfl ?_ Try.underlying64 rfl) rfl ?_
 ·exact ((HB3.out.setCell 0 _).setCell 1 _).alloc _
 ·have l3:=HB3.out.lt
  rw [HRL.out, ←World.setCell_alloc_past _ _ _ _ (by simpa using l3), ←World.setCell_alloc_past _ _ _ _ l3]
  have hq:Step RunQ w ρ W3 ρ3:=HS3.out.mono (fun t h=>Or.inl (by rw [h]))
  refine RunP.fin (a:= .ok ⟨0,some h.cells.length⟩) (s:=none) (B':=[W3.heap.size]) (hq.trans (HNC.out.2.mono (fun _ h=>h.elim))) (Nat.le_refl _) ((Ghost.put_ne _ _ (by omega)).trans HT3.out) HNC.out.1 ⟨?_,rfl,newVOk HLN.out.symm⟩ (HG3.out.cell _ _)
  rw [newVal HLN.out.symm]
end
theorem array_len (a:Vl) (l:List Vl) (k:Nat) (c:Cl) (hF:FrR w ρ B X ac (a :: l)) (hv:h.of a=some (k,c)) :
 Calls Try.prog 46 #[.pointer (some ⟨R,0,none⟩), .int .i64 15, .slice (some ⟨X,0,none⟩) (a :: l).length ac] w (RunP p n N szs fuel R w ρ B RunQ (.ok (wd c.parts.length)) h):=by
 have HRN:=Hd.mk hr
 have HFR:=Hd.mk hfr
 have HG:=Hd.mk hG
 have HFA:=Hd.mk hF
 have HS:=Hd.mk (Step.refl (fun _=>False) w ρ)
 obtain ⟨c0,c1,_,hva⟩:=hF.cells (i:=0) (v:=a) rfl
 have lX:=hF.lt
 simp only [Nat.zero_mul,Nat.zero_add] at c0 c1
 obtain ⟨b,A,cp,ba,hpt,hck,hbk,lb,hcr,e0,e1,e2,hO,hbp⟩:=hr.at hv
 have HOF:=Hd.mk hO
 rw [hpt] at c1
 have hsz:=hcr.sz
 have HSZ:=Hd.mk hsz
 simp only [List.length_cons]
 have hl2:(0:Int)<(l.length:Int)+1:=by omega
 have hgl:goInt c.parts.length= .int .i64 c.parts.length:=rfl
 clear hO hbp hpt hck hbk hcr hv hva hsz
 clear hr hfr hG hF
 go_enter Try.func46,Try.ntmps46
 go_wp2
 refine bodyPost_ret (results_cell2 rfl _ _ w.heap.size [.int .i64 (c.parts.length), .pointer (none)] rfl ?_ Try.underlying64 rfl) rfl ?_
 ·exact Blk.new' w #[.int .i64 (c.parts.length), .pointer (none)] _
 ·have hs2:=HS.out.alloc (.cells #[.int .i64 (c.parts.length), .pointer (none)] 64)
  refine ⟨ρ,[],_,_,rfl,⟨rfl,rfl,?_⟩,by rw [List.append_nil];exact HRN.out.step hs2 (fun _ _ h=>h),hs2.mono (fun _ h=>h.elim),HG.out⟩
  exact ⟨⟨by show -9223372036854775808≤(c.parts.length:Int);omega,by show (c.parts.length:Int)≤9223372036854775807;have:=HSZ.out;omega⟩,fun k h=>by cases h⟩
section
variable (a i:Vl) (l:List Vl) (k:Nat) (c:Cl) (hF:FrR w ρ B X ac (a :: i :: l)) (hv:h.of a=some (k,c))
include a i l k c hF hv
section
variable (hw:i.word<0∨(c.parts.length:Int)≤i.word)
include hw
theorem array_out13 :
 Calls Try.prog 46 #[.pointer (some ⟨R,0,none⟩), .int .i64 13, .slice (some ⟨X,0,none⟩) (a :: i :: l).length ac] w (RunP p n N szs fuel R w ρ B RunQ (.error ⟨1,i.word⟩) h):=by
 have HRN:=Hd.mk hr
 have HFR:=Hd.mk hfr
 have HG:=Hd.mk hG
 have HFA:=Hd.mk hF
 have HS:=Hd.mk (Step.refl (fun _=>False) w ρ)
 obtain ⟨c0,c1,_,hva⟩:=hF.cells (i:=0) (v:=a) rfl
 obtain ⟨c2,c3,_,hvi⟩:=hF.cells (i:=1) (v:=i) rfl
 have lX:=hF.lt
 simp only [Nat.zero_mul,Nat.zero_add,Nat.one_mul] at c0 c1 c2 c3
 obtain ⟨b,A,cp,ba,hpt,hck,hbk,lb,hcr,e0,e1,e2,hO,hbp⟩:=hr.at hv
 have HOF:=Hd.mk hO
 rw [hpt] at c1
 have hsz:=hcr.sz
 have HSZ:=Hd.mk hsz
 have HVI:=Hd.mk hvi
 simp only [List.length_cons]
 have hl2:(0:Int)<(l.length:Int)+1+1:=by omega
 have hl3:(1:Int)<(l.length:Int)+1+1:=by omega
 have hgl:goInt c.parts.length= .int .i64 c.parts.length:=rfl
 have HW:=Hd.mk hw
 clear hw hO hbp hpt hck hbk hcr hv hva hsz hvi
 by_cases hw1:i.word<0
 ·have w1:decide (i.word<0)=true:=decide_eq_true hw1
  clear hr hfr hG hF
  go_enter Try.func46,Try.ntmps46
  go_wp2
  refine bodyPost_ret (results_cell2 rfl _ _ w.heap.size [.int .i64 0, .pointer none] rfl ?_ Try.underlying64 rfl) rfl ?_
  ·exact (Blk.new' w #[.int .i64 0, .pointer none] _).alloc _
  ·have hs2:=(HS.out.alloc (.cells #[.int .i64 0, .pointer none] 64)).alloc (.cells #[.int .i64 1, .int .i64 i.word] 69)
   have hz:(w.alloc (.cells #[.int .i64 0, .pointer none] 64)).heap.size=w.heap.size+1:=by simp
   refine ⟨ρ,[],_,_,rfl,⟨w.heap.size+1,rfl,rfl,HFR.out _ (by omega),?_,I64_lit (1) (by decide) (by decide),HVI.out.1⟩,by rw [List.append_nil];exact HRN.out.step hs2 (fun _ _ h=>h),hs2.mono (fun _ h=>h.elim),HG.out⟩
   exact Blk.newAt hz [.int .i64 1, .int .i64 i.word] 69
 ·have w1:decide (i.word<0)=false:=decide_eq_false hw1
  have hw2:(c.parts.length:Int)≤i.word:=by have:=HW.out;omega
  have w2:decide ((c.parts.length:Int)≤i.word)=true:=decide_eq_true hw2
  have w3:decide (i.word ≥ (c.parts.length:Int))=true:=decide_eq_true hw2
  clear hr hfr hG hF
  go_enter Try.func46,Try.ntmps46
  go_wp2
  refine bodyPost_ret (results_cell2 rfl _ _ w.heap.size [.int .i64 0, .pointer none] rfl ?_ Try.underlying64 rfl) rfl ?_
  ·exact (Blk.new' w #[.int .i64 0, .pointer none] _).alloc _
  ·have hs2:=(HS.out.alloc (.cells #[.int .i64 0, .pointer none] 64)).alloc (.cells #[.int .i64 1, .int .i64 i.word] 69)
   have hz:(w.alloc (.cells #[.int .i64 0, .pointer none] 64)).heap.size=w.heap.size+1:=by simp
   refine ⟨ρ,[],_,_,rfl,⟨w.heap.size+1,rfl,rfl,HFR.out _ (by omega),?_,I64_lit (1) (by decide) (by decide),HVI.out.1⟩,by rw [List.append_nil];exact HRN.out.step hs2 (fun _ _ h=>h),hs2.mono (fun _ h=>h.elim),HG.out⟩
   exact Blk.newAt hz [.int .i64 1, .int .i64 i.word] 69
theorem array_out14 :
 Calls Try.prog 46 #[.pointer (some ⟨R,0,none⟩), .int .i64 14, .slice (some ⟨X,0,none⟩) (a :: i :: l).length ac] w (RunP p n N szs fuel R w ρ B RunQ (.error ⟨1,i.word⟩) h):=by
 have HRN:=Hd.mk hr
 have HFR:=Hd.mk hfr
 have HG:=Hd.mk hG
 have HFA:=Hd.mk hF
 have HS:=Hd.mk (Step.refl (fun _=>False) w ρ)
 obtain ⟨c0,c1,_,hva⟩:=hF.cells (i:=0) (v:=a) rfl
 obtain ⟨c2,c3,_,hvi⟩:=hF.cells (i:=1) (v:=i) rfl
 have lX:=hF.lt
 simp only [Nat.zero_mul,Nat.zero_add,Nat.one_mul] at c0 c1 c2 c3
 obtain ⟨b,A,cp,ba,hpt,hck,hbk,lb,hcr,e0,e1,e2,hO,hbp⟩:=hr.at hv
 have HOF:=Hd.mk hO
 rw [hpt] at c1
 have hsz:=hcr.sz
 have HSZ:=Hd.mk hsz
 have HVI:=Hd.mk hvi
 simp only [List.length_cons]
 have hl2:(0:Int)<(l.length:Int)+1+1:=by omega
 have hl3:(1:Int)<(l.length:Int)+1+1:=by omega
 have hgl:goInt c.parts.length= .int .i64 c.parts.length:=rfl
 have HW:=Hd.mk hw
 clear hw hO hbp hpt hck hbk hcr hv hva hsz hvi
 by_cases hw1:i.word<0
 ·have w1:decide (i.word<0)=true:=decide_eq_true hw1
  clear hr hfr hG hF
  go_enter Try.func46,Try.ntmps46
  go_wp2
  refine bodyPost_ret (results_cell2 rfl _ _ w.heap.size [.int .i64 0, .pointer none] rfl ?_ Try.underlying64 rfl) rfl ?_
  ·exact (Blk.new' w #[.int .i64 0, .pointer none] _).alloc _
  ·have hs2:=(HS.out.alloc (.cells #[.int .i64 0, .pointer none] 64)).alloc (.cells #[.int .i64 1, .int .i64 i.word] 69)
   have hz:(w.alloc (.cells #[.int .i64 0, .pointer none] 64)).heap.size=w.heap.size+1:=by simp
   refine ⟨ρ,[],_,_,rfl,⟨w.heap.size+1,rfl,rfl,HFR.out _ (by omega),?_,I64_lit (1) (by decide) (by decide),HVI.out.1⟩,by rw [List.append_nil];exact HRN.out.step hs2 (fun _ _ h=>h),hs2.mono (fun _ h=>h.elim),HG.out⟩
   exact Blk.newAt hz [.int .i64 1, .int .i64 i.word] 69
 ·have w1:decide (i.word<0)=false:=decide_eq_false hw1
  have hw2:(c.parts.length:Int)≤i.word:=by have:=HW.out;omega
  have w2:decide ((c.parts.length:Int)≤i.word)=true:=decide_eq_true hw2
  have w3:decide (i.word ≥ (c.parts.length:Int))=true:=decide_eq_true hw2
  clear hr hfr hG hF
  go_enter Try.func46,Try.ntmps46
  go_wp2
  refine bodyPost_ret (results_cell2 rfl _ _ w.heap.size [.int .i64 0, .pointer none] rfl ?_ Try.underlying64 rfl) rfl ?_
  ·exact (Blk.new' w #[.int .i64 0, .pointer none] _).alloc _
  ·have hs2:=(HS.out.alloc (.cells #[.int .i64 0, .pointer none] 64)).alloc (.cells #[.int .i64 1, .int .i64 i.word] 69)
   have hz:(w.alloc (.cells #[.int .i64 0, .pointer none] 64)).heap.size=w.heap.size+1:=by simp
   refine ⟨ρ,[],_,_,rfl,⟨w.heap.size+1,rfl,rfl,HFR.out _ (by omega),?_,I64_lit (1) (by decide) (by decide),HVI.out.1⟩,by rw [List.append_nil];exact HRN.out.step hs2 (fun _ _ h=>h),hs2.mono (fun _ h=>h.elim),HG.out⟩
   exact Blk.newAt hz [.int .i64 1, .int .i64 i.word] 69
end
theorem array_at (v:Vl) (hat:atI c.parts i.word=some v) :
 Calls Try.prog 46 #[.pointer (some ⟨R,0,none⟩), .int .i64 13, .slice (some ⟨X,0,none⟩) (a :: i :: l).length ac] w (RunP p n N szs fuel R w ρ B RunQ (.ok v) h):=by
 have HRN:=Hd.mk hr
 have HFR:=Hd.mk hfr
 have HG:=Hd.mk hG
 have HFA:=Hd.mk hF
 have HS:=Hd.mk (Step.refl (fun _=>False) w ρ)
 obtain ⟨c0,c1,_,hva⟩:=hF.cells (i:=0) (v:=a) rfl
 obtain ⟨c2,c3,_,hvi⟩:=hF.cells (i:=1) (v:=i) rfl
 have lX:=hF.lt
 simp only [Nat.zero_mul,Nat.zero_add,Nat.one_mul] at c0 c1 c2 c3
 obtain ⟨b,A,cp,ba,hpt,hck,hbk,lb,hcr,e0,e1,e2,hO,hbp⟩:=hr.at hv
 have HOF:=Hd.mk hO
 rw [hpt] at c1
 have hsz:=hcr.sz
 have HSZ:=Hd.mk hsz
 have HVI:=Hd.mk hvi
 simp only [List.length_cons]
 have hl2:(0:Int)<(l.length:Int)+1+1:=by omega
 have hl3:(1:Int)<(l.length:Int)+1+1:=by omega
 have hgl:goInt c.parts.length= .int .i64 c.parts.length:=rfl
 obtain ⟨ii,hii,hil,hget⟩:∃ ii:Nat,i.word=(ii:Int)∧ii<c.parts.length∧c.parts[ii]? =some v:=by
  unfold atI at hat
  split at hat
  ·cases hat
  ·rename_i hneg
   obtain ⟨ii,hii⟩:=Int.eq_ofNat_of_zero_le (show 0≤i.word by omega)
   rw [hii,Int.toNat_natCast] at hat
   exact ⟨ii,hii,(List.getElem?_eq_some_iff.1 hat).1,hat⟩
 obtain ⟨g,cp',hAg,hgt,hcp1,_,hgc,hgf,hgl2⟩:=hO.some (by omega)
 cases hAg
 obtain ⟨f0,f1⟩:=flatV_get B hget
 have p0:=(hgc (ii*2) (by omega)).trans f0
 have p1:=(hgc (ii*2+1) (by omega)).trans f1
 have HVO:=Hd.mk (hcr.ok v (List.mem_of_getElem? hget))
 rw [hii] at c2
 have hili:(ii:Int)<c.parts.length:=by omega
 have hiz:(0:Int)≤ii:=by omega
 have w1:decide ((ii:Int)<0)=false:=decide_eq_false (by omega)
 have w2:decide ((c.parts.length:Int)≤ii)=false:=decide_eq_false (by omega)
 have w3:decide ((ii:Int) ≥ (c.parts.length:Int))=false:=decide_eq_false (by omega)
 clear hO hbp hpt hck hbk hcr hv hva hsz hvi hat hget f0 f1 hii hgt hcp1 hgc hgf
 clear hr hfr hG hF
 go_enter Try.func46,Try.ntmps46
 go_wp2
 refine bodyPost_ret (results_cell2 rfl _ _ w.heap.size [.int .i64 (v.word), .pointer (ptrV B v)] rfl ?_ Try.underlying64 rfl) rfl ?_
 ·exact Blk.new' w #[.int .i64 (v.word), .pointer (ptrV B v)] _
 ·have hs2:=HS.out.alloc (.cells #[.int .i64 (v.word), .pointer (ptrV B v)] 64)
  refine ⟨ρ,[],_,_,rfl,⟨by rw [List.append_nil];rfl,rfl,?_⟩,by rw [List.append_nil];exact HRN.out.step hs2 (fun _ _ h=>h),hs2.mono (fun _ h=>h.elim),HG.out⟩
  rw [List.append_nil]
  exact HVO.out
end
theorem array_put (a i v:Vl) (l:List Vl) (k:Nat) (c:Cl) (hF:FrR w ρ B X ac (a :: i :: v :: l)) (hv:h.of a=some (k,c)) (q:List Vl) (hat:setI c.parts i.word v=some q) :
 Calls Try.prog 46 #[.pointer (some ⟨R,0,none⟩), .int .i64 14, .slice (some ⟨X,0,none⟩) (a :: i :: v :: l).length ac] w (RunP p n N szs fuel R w ρ B RunQ (.ok nilV) (h.put k { c with parts:=q })):=by
 have HRN:=Hd.mk hr
 have HFR:=Hd.mk hfr
 have HG:=Hd.mk hG
 have HFA:=Hd.mk hF
 have HS:=Hd.mk (Step.refl (fun _=>False) w ρ)
 obtain ⟨c0,c1,_,hva⟩:=hF.cells (i:=0) (v:=a) rfl
 obtain ⟨c2,c3,_,hvi⟩:=hF.cells (i:=1) (v:=i) rfl
 obtain ⟨c4,c5,_,hvv⟩:=hF.cells (i:=2) (v:=v) rfl
 have lX:=hF.lt
 simp only [Nat.zero_mul,Nat.zero_add,Nat.one_mul,show 2*2=4 from rfl,show 4+1=5 from rfl] at c0 c1 c2 c3 c4 c5
 obtain ⟨b,A,cp,ba,hpt,hck,hbk,lb,hcr,e0,e1,e2,hO,hbp⟩:=hr.at hv
 have HOF:=Hd.mk hO
 rw [hpt] at c1
 have hsz:=hcr.sz
 have HSZ:=Hd.mk hsz
 have HVI:=Hd.mk hvi
 have HVV:=Hd.mk hvv
 simp only [List.length_cons]
 have hl2:(0:Int)<(l.length:Int)+1+1+1:=by omega
 have hl3:(1:Int)<(l.length:Int)+1+1+1:=by omega
 have hl4:(2:Int)<(l.length:Int)+1+1+1:=by omega
 have hgl:goInt c.parts.length= .int .i64 c.parts.length:=rfl
 obtain ⟨ii,hii,hil,hget⟩:∃ ii:Nat,i.word=(ii:Int)∧ii<c.parts.length∧c.parts.set ii v=q:=by
  unfold setI at hat
  split at hat
  ·rename_i hpos
   obtain ⟨ii,hii⟩:=Int.eq_ofNat_of_zero_le hpos.1
   rw [hii,Int.toNat_natCast] at hat
   cases hat
   exact ⟨ii,hii,by have:=hpos.2;omega,rfl⟩
  ·cases hat
 obtain ⟨g,cp',hAg,hgt,hcp1,_,hgc,hgf,hgl2⟩:=hO.some (by omega)
 cases hAg
 have hput:=hr.put (i:=ii) (v:=v) hck hbk e1 hil hvv
 rw [hget] at hput
 have HPUT:=Hd.mk hput
 rw [hii] at c2
 have hili:(ii:Int)<c.parts.length:=by omega
 have hiz:(0:Int)≤ii:=by omega
 have w1:decide ((ii:Int)<0)=false:=decide_eq_false (by omega)
 have w2:decide ((c.parts.length:Int)≤ii)=false:=decide_eq_false (by omega)
 have w3:decide ((ii:Int) ≥ (c.parts.length:Int))=false:=decide_eq_false (by omega)
 have p0:=(hgc (ii*2) (by omega)).trans (flatV_get B (List.getElem?_eq_getElem hil)).1
 have p1:=(hgc (ii*2+1) (by omega)).trans (flatV_get B (List.getElem?_eq_getElem hil)).2
 have g0:=hgf (ii*2)
 have g1:=hgf (ii*2+1)
 generalize c.parts[ii]=old at p0 p1
 clear hO hbp hpt hck hbk hcr hv hva hsz hvi hat hget hii hgt hcp1 hgc hgf hput hvv
 clear hr hfr hG hF
 go_enter Try.func46,Try.ntmps46
 go_wp2
 refine bodyPost_ret (results_cell2 rfl _ _ w.heap.size [.int .i64 0, .pointer none] rfl ?_ Try.underlying64 rfl) rfl ?_
 ·have hz:((w.setCell ⟨g,ii*2,none⟩ (.int .i64 v.word)).setCell ⟨g,ii*2+1,none⟩ (.pointer (ptrV B v))).heap.size=w.heap.size:=by simp
  exact Blk.newAt hz [.int .i64 0, .pointer none] _
 ·have hs2:=(Step.refl (fun _=>False) ((w.setCell ⟨g,ii*2,none⟩ (.int .i64 v.word)).setCell ⟨g,ii*2+1,none⟩ (.pointer (ptrV B v))) ρ).alloc (.cells #[.int .i64 0, .pointer none] 64)
  refine ⟨ρ,[],_,_,rfl,⟨rfl,rfl,I64_lit 0 (by decide) (by decide),fun k h=>by cases h⟩,by rw [List.append_nil];exact HPUT.out.1.step hs2 (fun _ _ h=>h),(HPUT.out.2.mono (fun t h=>Or.inr (Or.inr (by rw [h])))).trans (hs2.mono (fun _ h=>h.elim)),HG.out⟩
end
end
section
open Go Go.RowKit
theorem spend_if (h:Hp) (fuel n:Int):h.spend fuel n=if h.ticks+n > fuel then (false,{ h with ticks:=fuel }) else (true,{ h with ticks:=h.ticks+n }):=rfl
theorem array_any (p:Pg) (n N:Nat) (szs:List Int) (fuel:Int) (R:Nat) (w:World) (ρ:Ghost) (h:Hp) (B:List Nat) (hr:RnR p n N szs fuel R w ρ h B) (hfr:Fresh w ρ) (hG:OkG ρ) (op:Int) (hop:op=12∨op=13∨op=14∨op=15) (ag:List Vl) (X ac:Nat) (hF:FrR w ρ B X ac ag) (a':Ans) (h':Hp) (hres:arrayR fuel op ag h=some (a',h')) :
 Calls Try.prog 46 #[.pointer (some ⟨R,0,none⟩), .int .i64 op, .slice (some ⟨X,0,none⟩) ag.length ac] w (RunP p n N szs fuel R w ρ B RunQ a' h'):=by
 unfold arrayR at hres
 by_cases h12:op=12
 ·subst h12
  rw [if_pos rfl] at hres
  match ag,hres,hF with
  |[],hres,_=>cases hres
  |[_],hres,_=>cases hres
  |a :: v :: l,hres,hF =>
   simp only [spend_if] at hres
   by_cases hw:a.word<0∨a.word > 4096
   ·rw [if_pos hw] at hres
    cases hres
    exact array_size p n N szs fuel R w ρ h B hr hfr hG X ac a v l hF hw
   ·rw [if_neg hw] at hres
    by_cases hs:h.ticks+a.word > fuel
    ·rw [if_pos hs] at hres
     cases hres
     exact array_fuel p n N szs fuel R w ρ h B hr hfr hG X ac a v l hF (by omega) (by omega) (by omega)
    ·rw [if_neg hs] at hres
     cases hres
     exact array_make p n N szs fuel R w ρ h B hr hfr hG X ac a v l hF (by omega) (by omega) (by omega)
 ·rw [if_neg h12] at hres
  match ag,hres,hF with
  |[],hres,_=>cases hres
  |a :: l,hres,hF =>
   simp only [Option.bind_eq_some_iff] at hres
   obtain ⟨⟨k,c⟩,hv,hres⟩:=hres
   by_cases h15:op=15
   ·subst h15
    rw [if_pos rfl] at hres
    cases hres
    exact array_len p n N szs fuel R w ρ _ B hr hfr hG X ac a l k c hF hv
   ·rw [if_neg h15] at hres
    cases l with
    |nil=>cases hres
    |cons i m =>
     dsimp only at hres
     by_cases hw:i.word<0∨i.word ≥ c.parts.length
     ·simp only [if_pos hw] at hres
      cases hres
      have hop2:op=13∨op=14:=by omega
      rcases hop2 with rfl|rfl
      ·exact array_out13 p n N szs fuel R w ρ _ B hr hfr hG X ac a i m k c hF hv (by omega)
      ·exact array_out14 p n N szs fuel R w ρ _ B hr hfr hG X ac a i m k c hF hv (by omega)
     ·simp only [if_neg hw] at hres
      by_cases h13:op=13
      ·subst h13
       rw [if_pos rfl] at hres
       simp only [Option.map_eq_some_iff] at hres
       obtain ⟨v,hat,he⟩:=hres
       cases he
       exact array_at p n N szs fuel R w ρ _ B hr hfr hG X ac a i m k c hF hv v hat
      ·rw [if_neg h13] at hres
       have h14:op=14:=by omega
       subst h14
       cases m with
       |nil=>cases hres
       |cons v l =>
        dsimp only at hres
        simp only [Option.map_eq_some_iff] at hres
        obtain ⟨q,hat,he⟩:=hres
        cases he
        exact array_put p n N szs fuel R w ρ _ B hr hfr hG X ac a i v l k c hF hv q hat
end
section
open Go Go.RowKit
theorem BkR.up {w:World} {ρ:Ghost}:∀ (n:Nat) {b:Bk} {cs:List Value},BkR w ρ n b cs→BkR w ρ (n+1) b cs
 |0,_,_,h=>h.elim
 |n+1,b,cs,h=>by
  obtain ⟨vb,vs,h0,h1,h2,h3,h4⟩:=h
  refine ⟨vb,vs,h0,h1,h2,h3,h4.imp (fun s c _ hs=>?_)⟩
  obtain ⟨ct,va,vt,ve,vr,vm,vk,vb,g0,g1,g2,g3,g4,g5,g6,g7,g8,g9,g10,g11,g12,g13⟩:=hs
  exact ⟨ct,va,vt,ve,vr,vm,vk,vb,g0,g1,g2,g3,g4,g5,TyR.up _ g6,g7,g8.mono (Nat.le_succ _),g9,g10,g11,g12,g13.imp (fun _ _ _ h=>BkR.up n h)⟩
theorem BkR.mono {w:World} {ρ:Ghost} {n m:Nat} (hm:n≤m) {b:Bk} {cs:List Value} (h:BkR w ρ n b cs):BkR w ρ m b cs:=by
 induction hm with
 |refl=>exact h
 |step _ ih=>exact BkR.up _ ih
theorem BkAt.mono {w:World} {ρ:Ghost} {n m:Nat} (hm:n≤m) {b:Bk} {bb o:Nat} (h:BkAt w ρ n b bb o):BkAt w ρ m b bb o:=by
 obtain ⟨cs,h1,h2⟩:=h.out
 exact ⟨h.tag,h.lt,cs,BkR.mono hm h1,h2⟩
structure StAt (w:World) (ρ:Ghost) (n:Nat) (s:St) (sb so:Nat):Prop where
 tag:ρ sb=none
 lt:sb<w.heap.size
 out:∃ va0 v1 v2 va vt ve vr vm vk vb,StV w ρ n s va0 v1 v2 va vt ve vr vm vk vb∧∀ j u,(stCells s va0 v1 v2 va vt ve vr vm vk vb)[j]? =some u→w.cell? ⟨sb,so+j,none⟩=some u
theorem StAt.step {T:Tag→Prop} {w w':World} {ρ ρ':Ghost} {n:Nat} {s:St} {sb so:Nat} (h:StAt w ρ n s sb so) (hs:Step T w ρ w' ρ'):StAt w' ρ' n s sb so:=by
 obtain ⟨va0,v1,v2,va,vt,ve,vr,vm,vk,vb,h1,h2⟩:=h.out
 exact ⟨hs.tag h.lt h.tag,Nat.lt_of_lt_of_le h.lt hs.size,va0,v1,v2,va,vt,ve,vr,vm,vk,vb,h1.step hs,fun j u hj=>hs.cell (a:=⟨sb,_,none⟩) h.lt h.tag (h2 j u hj)⟩
section
variable {w:World} {ρ:Ghost} {n:Nat}
include w ρ n
theorem StAt.cells {s:St} {sb so:Nat} (h:StAt w ρ n s sb so) :
 ∃ Aa ca Ab cb,w.cell? ⟨sb,so,none⟩=some (.int .i64 s.op)∧w.cell? ⟨sb,so+1,none⟩=some (.int .i64 s.out)∧w.cell? ⟨sb,so+9,none⟩=some (.slice Aa s.args.length ca)∧w.cell? ⟨sb,so+10,none⟩=some (.int .i64 s.int)∧w.cell? ⟨sb,so+11,none⟩=some (.int .i64 s.code)∧w.cell? ⟨sb,so+18,none⟩=some (.slice Ab s.blocks.length cb) ∧
  IntsR w ρ (.slice Aa s.args.length ca) s.args∧BksR w ρ n (.slice Ab s.blocks.length cb) s.blocks∧I64 s.op∧I64 s.out∧I64 s.int∧I64 s.code:=by
 obtain ⟨va0,v1,v2,va,vt,ve,vr,vm,vk,vb,h1,h2⟩:=h.out
 obtain ⟨Aa,ca,rfl,_,_⟩:=SlR.form h1.args
 obtain ⟨Ab,cb,rfl,_,_⟩:=SlR.form h1.blocks
 exact ⟨Aa,ca,Ab,cb,h2 0 _ rfl,h2 1 _ rfl,h2 9 _ rfl,h2 10 _ rfl,h2 11 _ rfl,h2 18 _ rfl,h1.args,h1.blocks,h1.i1,h1.i2,h1.i3,h1.i4⟩
theorem BksR.place {A:Option Addr} {len c:Nat} {l:List Bk} (h:BksR w ρ n (.slice A len c) l) {k:Nat} {b:Bk} (hk:l[k]? =some b):∃ bb o,A=some ⟨bb,o,none⟩∧BkAt w ρ n b bb (o+k*4):=by
 obtain ⟨A',c',h1,h2,h3,h4,h5⟩:=h.out
 cases h1
 obtain ⟨bb,o,cs,e1,e2,e3,e4,e5,e6⟩:=h5 k b hk
 exact ⟨bb,o,e1,e2,e3,cs,e5,fun j u hj=>e6 j u hj⟩
theorem BkAt.cells {b:Bk} {bb o:Nat} (h:BkAt w ρ n b bb o) :
 ∃ m B1 k1 B2 k2,n=m+1∧w.cell? ⟨bb,o,none⟩=some (.int .i64 b.code)∧w.cell? ⟨bb,o+1,none⟩=some (.slice B1 b.bind.length k1)∧w.cell? ⟨bb,o+2,none⟩=some (.slice B2 b.steps.length k2)∧w.cell? ⟨bb,o+3,none⟩=some (.int .i64 b.value) ∧
  IntsR w ρ (.slice B1 b.bind.length k1) b.bind∧StsR w ρ m (.slice B2 b.steps.length k2) b.steps∧I64 b.code∧I64 b.value:=by
 obtain ⟨cs,h1,h2⟩:=h.out
 obtain ⟨m,vb,vs,rfl,rfl,i1,i2,h3,h4⟩:=h1.shape
 obtain ⟨B1,k1,rfl,_,_⟩:=SlR.form h3
 obtain ⟨B2,k2,rfl,_,_⟩:=SlR.form h4
 exact ⟨m,B1,k1,B2,k2,rfl,h2 0 _ rfl,h2 1 _ rfl,h2 2 _ rfl,h2 3 _ rfl,h3,h4,i1,i2⟩
theorem StsR.place {A:Option Addr} {len c:Nat} {l:List St} (h:StsR w ρ n (.slice A len c) l) {k:Nat} {s:St} (hk:l[k]? =some s):∃ sb o,A=some ⟨sb,o,none⟩∧StAt w ρ n s sb (o+k*19):=by
 obtain ⟨A',c',h1,h2,h3,h4,h5⟩:=h.out
 cases h1
 obtain ⟨sb,o,cs,e1,e2,e3,e4,e5,e6⟩:=h5 k s hk
 obtain ⟨va0,v1,v2,va,vt,ve,vr,vm,vk,vb,rfl,hV⟩:=e5.shape
 exact ⟨sb,o,e1,e2,e3,va0,v1,v2,va,vt,ve,vr,vm,vk,vb,hV,fun j u hj=>e6 j u hj⟩
end
structure CtxC (p:Pg) (n N:Nat) (szs:List Int) (fuel:Int) (R:Nat) (K:Ctx):Prop where
 fu:K.fuel=fuel
 fn:∀ (w:World) (ρ:Ghost) (h:Hp) (B:List Nat) (X ac:Nat) (ag:List Vl) (code:Int) (a':Ans) (h':Hp),RnR p n N szs fuel R w ρ h B→Fresh w ρ→OkG ρ→FrR w ρ B X ac ag→K.fn code ag h=some (a',h') →
  Calls Try.prog 16 #[.pointer (some ⟨R,0,none⟩), .int .i64 code, .slice (some ⟨X,0,none⟩) ag.length ac] w (RunP p n N szs fuel R w ρ B RunQ a' h')
 cl:∀ (w:World) (ρ:Ghost) (h:Hp) (B:List Nat) (G gc:Nat) (fr:Fr) (b:Bk) (bb o:Nat) (a':Ans) (h':Hp),RnR p n N szs fuel R w ρ h B→Fresh w ρ→OkG ρ→FrR w ρ B G gc fr→BkAt w ρ N b bb o→K.cl b fr h=some (a',h') →
  Calls Try.prog 30 #[.pointer (some ⟨R,0,none⟩), .pointer (some ⟨bb,o,none⟩), .slice (some ⟨G,0,none⟩) fr.length gc] w (RunP p n N szs fuel R w ρ B (RunT G) a' h')
end
section
open Go Go.RowKit
theorem HO4fr (W:World) (ρ:Ghost) (B:List Nat) (X cp:Nat) (fr:Fr) (i:Nat) (v:Vl) (hO:OwnSl W ρ (43,X) 64 2 (.slice (some ⟨X,0,none⟩) fr.length cp) fr.length (flatV B fr)) (ht:ρ X=some (43,X)) (hl:X<W.heap.size) (ho:∀ v,v ∈ fr→VOk B.length v) (hs:fr.length≤1100000) (hi:i<fr.length) (hv:VOk B.length v) :
 FrR ((W.setCell ⟨X,i*2,none⟩ (.int .i64 v.word)).setCell ⟨X,i*2+1,none⟩ (.pointer (ptrV B v))) ρ B X cp (fr.set i v)∧Step (· =((43,X):Tag)) W ρ ((W.setCell ⟨X,i*2,none⟩ (.int .i64 v.word)).setCell ⟨X,i*2+1,none⟩ (.pointer (ptrV B v))) ρ:=by
 have h7:=(hO.set (i*2) (.int .i64 v.word)).set (i*2+1) (.pointer (ptrV B v))
 rw [flatV_set B v hi] at h7
 refine ⟨⟨by simp only [List.length_set];exact h7,ht,by simpa using hl,fun u hu=>?_,by simpa using hs⟩,Step.setCell (T:=(· =((43,X):Tag))) (a:=⟨X,i*2+1,none⟩) (t:=(43,X)) (Step.setCell (T:=(· =((43,X):Tag))) (a:=⟨X,i*2,none⟩) (t:=(43,X)) (Step.refl _ W ρ) ht rfl _) ht rfl _⟩
 rcases List.mem_or_eq_of_mem_set hu with hu|rfl
 ·exact ho u hu
 ·exact hv
theorem AnsR.two {w:World} {ρ:Ghost} {B:List Nat} {a:Ans} {x:Value} {s:Option Addr} (h:AnsR w ρ B a x s):∃ (u0:Int) (u1:Option Addr),x= .agg #[.int .i64 u0, .pointer u1]:=by
 cases a with
 |ok v=>exact ⟨_,_,h.1⟩
 |error g =>
  obtain ⟨X,h1,_⟩:=h
  exact ⟨_,_,h1⟩
section
variable (p:Pg) (n N:Nat) (szs:List Int) (fuel:Int) (R:Nat) (w:World) (ρ:Ghost) (h:Hp) (B:List Nat) (hr:RnR p n N szs fuel R w ρ h B) (hfr:Fresh w ρ) (hG:OkG ρ)
include p n N szs fuel R w ρ h B hr hfr hG
theorem call_no (m:Nat) (s:St) (sb so:Nat) (hst:StAt w ρ m s sb so) (X ac:Nat) (ag:List Vl) (hF:FrR w ρ B X ac ag) (hsp:fuel<h.ticks+1) :
 Calls Try.prog 45 #[.pointer (some ⟨R,0,none⟩), .pointer (some ⟨sb,so,none⟩), .slice (some ⟨X,0,none⟩) ag.length ac] w (RunP p n N szs fuel R w ρ B RunQ (.error fuelSg) { h with ticks:=fuel }):=by
 have HRN:=Hd.mk hr
 have HFR:=Hd.mk hfr
 have HG:=Hd.mk hG
 have HFA:=Hd.mk hF
 have HST:=Hd.mk hst
 have HS1:=Hd.mk ((Step.refl (fun _=>False) w ρ).alloc_tag (.cells #[.int .i64 0, .pointer none] 64) (43,w.heap.size))
 have HB0:Hd (Blk (w.alloc (.cells #[.int .i64 0, .pointer none] 64)) w.heap.size 64 [.int .i64 0, .pointer none]):=⟨Blk.new' _ _ _⟩
 have HT0:Hd (ρ.put w.heap.size (43,w.heap.size) w.heap.size=some (43,w.heap.size)):=⟨Ghost.put_same _ _ _⟩
 have HG1:Hd (OkG (ρ.put w.heap.size (43,w.heap.size))):=⟨hG.frame _⟩
 have HCALL:=Hd.mk (spend_no p n N szs fuel R _ _ h B 1 (hr.step HS1.out (fun _ _ h=>h)) (HS1.out.fresh hfr) (by omega) (by omega) hsp)
 clear hsp
 clear hr hfr hG hF hst
 go_enter Try.func45,Try.ntmps45
 go_wp2_with fail
 refine HCALL.out.mono ?_
 rintro e W2 ⟨X2,rfl,hr2,hs2,hg2⟩
 have HRN2:=Hd.mk hr2
 have HS2:=Hd.mk ((HS1.out.mono (fun _ h=>h.elim)).trans hs2)
 have hb2:=hs2.blk' HB0.out HT0.out (by simp)
 have HT2:=Hd.mk (hs2.tag HB0.out.lt HT0.out)
 have HB2:=Hd.mk hb2
 have q0:W2.cell? ⟨w.heap.size,0,none⟩=some (.int .i64 0):=hb2.cell (i:=0) rfl
 have q1:W2.cell? ⟨w.heap.size,1,none⟩=some (.pointer none):=hb2.cell (i:=1) rfl
 have g0:=hb2.free 0
 have g1:=hb2.free 1
 have l2:=hb2.lt
 have HG2:=Hd.mk hg2
 clear hr2 hs2 hg2 hb2 HCALL
 go_wp2
 refine bodyPost_ret (results_cell2 rfl _ _ w.heap.size [.int .i64 0, .pointer none] rfl ?_ Try.underlying64 rfl) rfl ?_
 ·exact (HB2.out.setCell 0 _).setCell 1 _
 ·refine RunP.fin (B':=[]) (HS2.out.mono (fun t h=> .inl (by rw [h]))) (Nat.le_refl _) HT2.out (by rw [List.append_nil];exact HRN2.out) ⟨_,rfl,rfl,HG2.out⟩ (HG.out.frame _)
section
variable (K:Ctx) (hK:CtxC p n N szs fuel R K) (m:Nat) (s:St) (sb so:Nat) (hst:StAt w ρ m s sb so) (X ac:Nat)
include K hK m s sb so hst X ac
theorem call_fn (ag:List Vl) (hF:FrR w ρ B X ac ag) (hop:s.op=6) (hsp:h.ticks+1≤fuel) (a':Ans) (h':Hp) (hres:K.fn s.code ag { h with ticks:=h.ticks+1 }=some (a',h')) :
 Calls Try.prog 45 #[.pointer (some ⟨R,0,none⟩), .pointer (some ⟨sb,so,none⟩), .slice (some ⟨X,0,none⟩) ag.length ac] w (RunP p n N szs fuel R w ρ B RunQ a' h'):=by
 have HRN:=Hd.mk hr
 have HFR:=Hd.mk hfr
 have HG:=Hd.mk hG
 have HFA:=Hd.mk hF
 have HST:=Hd.mk hst
 have HS1:=Hd.mk ((Step.refl (fun _=>False) w ρ).alloc_tag (.cells #[.int .i64 0, .pointer none] 64) (43,w.heap.size))
 have HB0:Hd (Blk (w.alloc (.cells #[.int .i64 0, .pointer none] 64)) w.heap.size 64 [.int .i64 0, .pointer none]):=⟨Blk.new' _ _ _⟩
 have HT0:Hd (ρ.put w.heap.size (43,w.heap.size) w.heap.size=some (43,w.heap.size)):=⟨Ghost.put_same _ _ _⟩
 have HG1:Hd (OkG (ρ.put w.heap.size (43,w.heap.size))):=⟨hG.frame _⟩
 have HCALL:=Hd.mk (spend_ok p n N szs fuel R _ _ h B 1 (hr.step HS1.out (fun _ _ h=>h)) (by omega) (by omega) hsp)
 clear hsp
 have HK:=Hd.mk hK
 have HRES:=Hd.mk hres
 have HOP:=Hd.mk hop
 clear hK hres hop
 clear hr hfr hG hF hst
 go_enter Try.func45,Try.ntmps45
 go_wp2_with fail
 refine HCALL.out.mono ?_
 rintro e W2 ⟨rfl,hr2,hs2⟩
 have HRN2:=Hd.mk hr2
 have HS2:=Hd.mk ((HS1.out.mono (fun _ h=>h.elim)).trans hs2)
 have hb2:=hs2.blk' HB0.out HT0.out (by simp)
 have HT2:=Hd.mk (hs2.tag HB0.out.lt HT0.out)
 have HB2:=Hd.mk hb2
 have q0:W2.cell? ⟨w.heap.size,0,none⟩=some (.int .i64 0):=hb2.cell (i:=0) rfl
 have q1:W2.cell? ⟨w.heap.size,1,none⟩=some (.pointer none):=hb2.cell (i:=1) rfl
 have g0:=hb2.free 0
 have g1:=hb2.free 1
 have l2:=hb2.lt
 have hst2:=HST.out.step ((HS1.out.mono (fun _ h=>h.elim)).trans hs2)
 obtain ⟨Aa,ca,Ab,cb,e0,e1,e9,e10,e11,e18,_,_,_,_,_,i4⟩:=hst2.cells
 rw [HOP.out] at e0
 have lS:=hst2.lt
 have hF2:=HFA.out.step ((HS1.out.mono (fun _ h=>h.elim)).trans hs2) (by simp)
 have hcall:=HK.out.fn W2 (ρ.put w.heap.size (43,w.heap.size)) { h with ticks:=h.ticks+1 } B X ac ag s.code a' h' hr2 (HS2.out.fresh HFR.out) HG1.out hF2 HRES.out
 have HCALL2:=Hd.mk hcall
 clear hr2 hs2 hb2 HCALL hst2 hF2 hcall q0 q1 g0 g1 e1 e9 e10 e18 i4
 go_wp2_with fail
 clear l2 e0 e11 lS
 refine HCALL2.out.mono ?_
 rintro e W3 ⟨ρ3,B3,x3,s3,rfl,ha3,hr3,hs3,hg3⟩
 have HA3:=Hd.mk ha3
 have HR3:=Hd.mk hr3
 have HS3:=Hd.mk ((HS2.out.mono (fun t h=>Or.inl (by rw [h]))).trans (hs3.mono (fun t h=>h)):Step RunQ w ρ W3 ρ3)
 have HG3:=Hd.mk hg3
 have hb3:=hs3.blk' HB2.out HT2.out (by simp [RunQ])
 have HT3:=Hd.mk (hs3.tag HB2.out.lt HT2.out)
 have HB3:=Hd.mk hb3
 have q0:W3.cell? ⟨w.heap.size,0,none⟩=some (.int .i64 0):=hb3.cell (i:=0) rfl
 have q1:W3.cell? ⟨w.heap.size,1,none⟩=some (.pointer none):=hb3.cell (i:=1) rfl
 have g0:=hb3.free 0
 have g1:=hb3.free 1
 have l3:=hb3.lt
 obtain ⟨u0,u1,rfl⟩:=ha3.two
 clear ha3 hr3 hs3 hg3 hb3 HCALL2
 go_wp2
 refine bodyPost_ret (results_cell2 rfl _ _ w.heap.size [.int .i64 u0, .pointer u1] rfl ?_ Try.underlying64 rfl) rfl ?_
 ·exact (HB3.out.setCell 0 _).setCell 1 _
 ·exact RunP.fin HS3.out (Nat.le_refl _) HT3.out HR3.out HA3.out HG3.out
theorem call_cl (a b:Vl) (l:List Vl) (hF:FrR w ρ B X ac (a :: b :: l)) (hop:¬s.op=6) (hsp:h.ticks+1≤fuel) (k:Nat) (c:Cl) (hv:h.of a=some (k,c)) (bk:Bk) (hbk:c.block=some bk) (x:Int) (bs:List Int) (hbd:bk.bind=x :: bs) (vars:List Vl) (hse:setI c.parts x b=some vars) (a':Ans) (h':Hp) (hres:K.cl bk vars { h with ticks:=h.ticks+1 }=some (a',h')) :
 Calls Try.prog 45 #[.pointer (some ⟨R,0,none⟩), .pointer (some ⟨sb,so,none⟩), .slice (some ⟨X,0,none⟩) (a :: b :: l).length ac] w (RunP p n N szs fuel R w ρ B RunQ a' h'):=by
 have HRN:=Hd.mk hr
 have HFR:=Hd.mk hfr
 have HG:=Hd.mk hG
 have HFA:=Hd.mk hF
 have HST:=Hd.mk hst
 have HS1:=Hd.mk ((Step.refl (fun _=>False) w ρ).alloc_tag (.cells #[.int .i64 0, .pointer none] 64) (43,w.heap.size))
 have HB0:Hd (Blk (w.alloc (.cells #[.int .i64 0, .pointer none] 64)) w.heap.size 64 [.int .i64 0, .pointer none]):=⟨Blk.new' _ _ _⟩
 have HT0:Hd (ρ.put w.heap.size (43,w.heap.size) w.heap.size=some (43,w.heap.size)):=⟨Ghost.put_same _ _ _⟩
 have HG1:Hd (OkG (ρ.put w.heap.size (43,w.heap.size))):=⟨hG.frame _⟩
 have HCALL:=Hd.mk (spend_ok p n N szs fuel R _ _ h B 1 (hr.step HS1.out (fun _ _ h=>h)) (by omega) (by omega) hsp)
 clear hsp
 have HK:=Hd.mk hK
 have HRES:=Hd.mk hres
 have HOP:=Hd.mk hop
 have HV:Hd (({ h with ticks:=h.ticks+1 }:Hp).of a=some (k,c)):=⟨hv⟩
 have HBK:=Hd.mk hbk
 have HBD:=Hd.mk hbd
 have HSE:=Hd.mk hse
 have w1:(s.op == 6)=false:=by simp [hop]
 have w2:decide (s.op=6)=false:=decide_eq_false hop
 simp only [List.length_cons]
 have hl2:(0:Int)<(l.length:Int)+1+1:=by omega
 have hl3:(1:Int)<(l.length:Int)+1+1:=by omega
 clear hK hres hop hv hbk hbd hse
 clear hr hfr hG hF hst
 go_enter Try.func45,Try.ntmps45
 go_wp2_with fail
 refine HCALL.out.mono ?_
 rintro e W2 ⟨rfl,hr2,hs2⟩
 have HRN2:=Hd.mk hr2
 have HS2:=Hd.mk ((HS1.out.mono (fun _ h=>h.elim)).trans hs2)
 have hb2:=hs2.blk' HB0.out HT0.out (by simp)
 have HT2:=Hd.mk (hs2.tag HB0.out.lt HT0.out)
 have HB2:=Hd.mk hb2
 have q0:W2.cell? ⟨w.heap.size,0,none⟩=some (.int .i64 0):=hb2.cell (i:=0) rfl
 have q1:W2.cell? ⟨w.heap.size,1,none⟩=some (.pointer none):=hb2.cell (i:=1) rfl
 have g0:=hb2.free 0
 have g1:=hb2.free 1
 have l2:=hb2.lt
 have hst2:=HST.out.step ((HS1.out.mono (fun _ h=>h.elim)).trans hs2)
 obtain ⟨Aa,ca,Ab,cb,e0,_⟩:=hst2.cells
 have lS:=hst2.lt
 have hF2:=HFA.out.step ((HS1.out.mono (fun _ h=>h.elim)).trans hs2) (by simp)
 obtain ⟨c0,c1,_,_⟩:=hF2.cells (i:=0) (v:=a) rfl
 simp only [Nat.zero_mul,Nat.zero_add] at c0 c1
 obtain ⟨b0,A,cp,ba,hpt,hck,hbb,lb,hcr,d0,d1,d2,hO,hbp⟩:=hr2.at HV.out
 rw [hpt] at c1
 have hsz:=hcr.sz
 rw [HBK.out] at hbp
 obtain ⟨bb,o,rfl,hbat⟩:=hbp
 obtain ⟨ii,hii,hil,hset⟩:∃ ii:Nat,x=(ii:Int)∧ii<c.parts.length∧c.parts.set ii b=vars:=by
  have hse:=HSE.out
  unfold setI at hse
  split at hse
  ·rename_i hpos
   obtain ⟨ii,hii⟩:=Int.eq_ofNat_of_zero_le hpos.1
   rw [hii,Int.toNat_natCast] at hse
   cases hse
   exact ⟨ii,hii,by have:=hpos.2;omega,rfl⟩
  ·cases hse
 obtain ⟨g,cp',hAg,_⟩:=hO.some (by omega)
 cases hAg
 have hcl:=clone_any W2 (ρ.put w.heap.size (43,w.heap.size)) (42,k) g c.parts.length cp c.parts B hO rfl (by omega) hsz (HS2.out.fresh HFR.out) HG1.out
 have HCL:=Hd.mk hcl
 have HII:=Hd.mk (And.intro hii (And.intro hil (And.intro hset hsz)))
 have HBAT:=Hd.mk hbat
 have HF2:=Hd.mk hF2
 have HCR:=Hd.mk (And.intro hcr (And.intro hck hbb))
 have lX:=hF2.lt
 have HOKP:=Hd.mk hcr.ok
 have HD2:=Hd.mk (And.intro d2 hcr.tag)
 clear hr2 hs2 hb2 HCALL hst2 hF2 q0 q1 g0 g1 hcl hO hbat hcr hck hbb hpt hii hil hset hsz
 go_wp2_with fail
 refine HCL.out.mono ?_
 rintro e W3 ⟨X3,cp3,rfl,hx3,hO3⟩
 obtain ⟨hO4,hs4⟩:=hO3 (43,X3)
 have hlb:=HCR.out.1.lt
 have f1:W3.cell? ⟨b0,2,none⟩=some (.pointer (some ⟨bb,o,none⟩)):=(World.cell?_of_block (hs4.block b0 hlb (fun t ht h=>h))).trans HD2.out.1
 have hbat3:=HBAT.out.step hs4
 obtain ⟨m',B1,k1,B2,k2,_,_,f2,_,_,hints,_,_,_⟩:=hbat3.cells
 obtain ⟨bi,oi,hBi,_,f3,lbi⟩:=hints.elem (k:=0) (x:=x) (by rw [HBD.out];rfl)
 subst hBi
 rw [HII.out.1,Nat.add_zero] at f3
 have hbl:(0:Int)<bk.bind.length:=by rw [HBD.out];simp only [List.length_cons];omega
 have hblN:0<bk.bind.length:=by omega
 have hF3:=HF2.out.step hs4 (fun h=>h)
 obtain ⟨f4,f5,_,hvb⟩:=hF3.cells (i:=1) (v:=b) rfl
 simp only [Nat.one_mul] at f4 f5
 have lX3:=hF3.lt
 have hil:=HII.out.2.1
 have hili:(ii:Int)<c.parts.length:=by omega
 have hiz:(0:Int)≤ii:=by omega
 obtain ⟨g',c',hv',_,_,_,hgc,hgf,hgl⟩:=hO4.some (by omega)
 cases hv'
 have f6:=(hgc (ii*2) (by omega)).trans (flatV_get B (List.getElem?_eq_getElem hil)).1
 have f7:=(hgc (ii*2+1) (by omega)).trans (flatV_get B (List.getElem?_eq_getElem hil)).2
 have f8:=hgf (ii*2)
 have f9:=hgf (ii*2+1)
 generalize c.parts[ii]=old at f6 f7
 have lb3:b0<W3.heap.size:=Nat.lt_of_lt_of_le hlb hs4.size
 have lbb:=hbat3.lt
 have HING:=Hd.mk (And.intro hgl (And.intro hil hvb))
 have hne0:¬b0=X3:=by have:=hlb;omega
 have hne1:¬bb=X3:=by have:=HBAT.out.lt;omega
 have hne2:¬X3=b0:=fun h=>hne0 h.symm
 have hne3:¬X3=bb:=fun h=>hne1 h.symm
 have HO4:=Hd.mk hO4
 have HS4:=Hd.mk hs4
 have HB3:=Hd.mk (hs4.blk' HB2.out HT2.out (fun h=>h))
 have HT3:=Hd.mk (hs4.tag HB2.out.lt HT2.out)
 have HRN3:=Hd.mk (HRN2.out.step hs4 (fun _ _ h=>h))
 have HG3:=Hd.mk (HG1.out.frame X3)
 have HX3:=Hd.mk hx3
 have HNX:Hd (¬w.heap.size=X3):=⟨by have:=HB2.out.lt;omega⟩
 have HBAT3:=Hd.mk hbat3
 clear e0 lS c0 c1 d0 d1 d2 l2 lb hO3 hO4 hs4 hbat3 hints hF3 hil hgc hgf hgl hvb hlb hx3 lX
 go_wp2_with fail
 go_still_tail 14,(by kernel_rfl)
 change wpList _ _ _ _ _ W3.drew
 have HFR5:=Hd.mk (HO4fr W3.drew _ B X3 cp3 c.parts ii b HO4.out.drew (Ghost.put_same _ _ _) HING.out.1 HOKP.out HII.out.2.2.2 HING.out.2.1 HING.out.2.2)
 have HS5:=Hd.mk (HS2.out.trans ((HS4.out.drew).mono (fun _ h=>h.elim)))
 have HB5:=Hd.mk HB3.out.drew
 have HRN5:=Hd.mk (HRN3.out.step ((Step.refl (fun _=>False) W3 _).drew) (fun _ _ h=>h))
 have HBAT5:=Hd.mk (HBAT3.out.step ((Step.refl (fun _=>False) W3 _).drew))
 have F1:W3.drew.cell? ⟨b0,2,none⟩=some (.pointer (some ⟨bb,o,none⟩)):=f1
 have F6:W3.drew.cell? ⟨X3,ii*2,none⟩=some (.int .i64 old.word):=f6
 have F7:W3.drew.cell? ⟨X3,ii*2+1,none⟩=some (.pointer (ptrV B old)):=f7
 have F8:W3.drew.frozen? ⟨X3,ii*2,none⟩=false:=f8
 have F9:W3.drew.frozen? ⟨X3,ii*2+1,none⟩=false:=f9
 have lb5:b0<W3.drew.heap.size:=lb3
 have HLX:Hd (X3<W3.drew.heap.size):=⟨HING.out.1⟩
 clear f1 f2 f3 f4 f5 f6 f7 f8 f9 lX3 lb3 lbb lbi hbl hblN HRN3 HBAT3 HB3
 generalize (ρ.put w.heap.size (43,w.heap.size)).put X3 (43,X3)=ρ3 at *
 generalize W3.drew=W5 at *
 generalize hW6:(W5.setCell ⟨X3,ii*2,none⟩ (.int .i64 b.word)).setCell ⟨X3,ii*2+1,none⟩ (.pointer (ptrV B b))=W6 at HFR5
 have hs56:=HFR5.out.2
 have HRN6:=Hd.mk (HRN5.out.step hs56 (fun t h1 h2=>by rw [h2] at h1;rcases h1 with h1|h1|h1 <;> cases h1))
 have HBAT6:=Hd.mk (HBAT5.out.step hs56)
 have HF6:=HFR5.out.1
 rw [HII.out.2.2.1] at HF6
 have hcall:=HK.out.cl W6 ρ3 { h with ticks:=h.ticks+1 } B X3 cp3 vars bk bb o a' h' HRN6.out (hs56.fresh (HS5.out.fresh HFR.out)) HG3.out HF6 HBAT6.out HRES.out
 have hvl:vars.length=c.parts.length:=by rw [←HII.out.2.2.1,List.length_set]
 rw [hvl] at hcall
 have HCALL2:=Hd.mk hcall
 have HB6:=Hd.mk (hs56.blk' HB5.out HT3.out (fun h=>by have:=congrArg Prod.snd h;have h2:w.heap.size=X3:=this;exact HNX.out h2))
 have HW6:=Hd.mk hW6
 have HS56:=Hd.mk hs56
 clear hs56 HF6 hcall hvl hW6
 go_wp2_with fail
 rw [HW6.out]
 refine HCALL2.out.mono ?_
 rintro e W7 ⟨ρ7,B7,x7,s7,rfl,ha7,hr7,hs7,hg7⟩
 have hx:w.heap.size≤X3:=by have:=HX3.out;have:=HB2.out.lt;omega
 have HA3:=Hd.mk ha7
 have HR3:=Hd.mk hr7
 have HS3:Hd (Step RunQ w ρ W7 ρ7):=⟨Step.dropFrame (HS5.out.mono (fun t h=>Or.inl (by rw [h]))) ((HS56.out.mono (fun t h=>Or.inr h)).trans hs7) HG.out hx⟩
 have HG4:=Hd.mk hg7
 have hnt:¬RunT X3 (43,w.heap.size):=fun h=>by
  rcases h with h|h
  ·rcases h with h|h|h <;> cases h
  ·exact HNX.out (congrArg Prod.snd h)
 have hb3:=hs7.blk' HB6.out ((HS56.out.tag HB5.out.lt HT3.out)) hnt
 have HT4:=Hd.mk (hs7.tag HB6.out.lt (HS56.out.tag HB5.out.lt HT3.out))
 have HB4:=Hd.mk hb3
 have q0:W7.cell? ⟨w.heap.size,0,none⟩=some (.int .i64 0):=hb3.cell (i:=0) rfl
 have q1:W7.cell? ⟨w.heap.size,1,none⟩=some (.pointer none):=hb3.cell (i:=1) rfl
 have g0:=hb3.free 0
 have g1:=hb3.free 1
 have l3:=hb3.lt
 obtain ⟨u0,u1,rfl⟩:=ha7.two
 clear ha7 hr7 hs7 hg7 hb3 HCALL2 hx hnt F1 F6 F7 F8 F9 lb5
 go_wp2
 refine bodyPost_ret (results_cell2 rfl _ _ w.heap.size [.int .i64 u0, .pointer u1] rfl ?_ Try.underlying64 rfl) rfl ?_
 ·exact (HB4.out.setCell 0 _).setCell 1 _
 ·exact RunP.fin HS3.out (Nat.le_refl _) HT4.out HR3.out HA3.out HG4.out
end
end
end
section
open Go Go.RowKit
theorem call_any (p:Pg) (n N:Nat) (szs:List Int) (fuel:Int) (R:Nat) (K:Ctx) (hK:CtxC p n N szs fuel R K) (w:World) (ρ:Ghost) (h:Hp) (B:List Nat) (hr:RnR p n N szs fuel R w ρ h B) (hfr:Fresh w ρ) (hG:OkG ρ) (m:Nat) (s:St) (sb so:Nat) (hst:StAt w ρ m s sb so) (X ac:Nat) (ag:List Vl) (hF:FrR w ρ B X ac ag) (a':Ans) (h':Hp) (hres:callR K s.op s.code ag h=some (a',h')) :
 Calls Try.prog 45 #[.pointer (some ⟨R,0,none⟩), .pointer (some ⟨sb,so,none⟩), .slice (some ⟨X,0,none⟩) ag.length ac] w (RunP p n N szs fuel R w ρ B RunQ a' h'):=by
 unfold callR at hres
 rw [hK.fu] at hres
 simp only [spend_if] at hres
 by_cases hs:h.ticks+1 > fuel
 ·rw [if_pos hs] at hres
  cases hres
  exact call_no p n N szs fuel R w ρ h B hr hfr hG m s sb so hst X ac ag hF (by omega)
 ·rw [if_neg hs] at hres
  dsimp only at hres
  by_cases h6:s.op=6
  ·rw [if_pos h6] at hres
   exact call_fn p n N szs fuel R w ρ h B hr hfr hG K hK m s sb so hst X ac ag hF h6 (by omega) a' h' hres
  ·rw [if_neg h6] at hres
   cases ag with
   |nil=>cases hres
   |cons a l =>
    cases l with
    |nil=>cases hres
    |cons b l =>
     dsimp only at hres
     simp only [Option.bind_eq_some_iff] at hres
     obtain ⟨⟨k,c⟩,hv,hres⟩:=hres
     dsimp only at hres
     cases hbk:c.block with
     |none=>rw [hbk] at hres;cases hres
     |some bk =>
      rw [hbk] at hres
      dsimp only at hres
      cases hbd:bk.bind with
      |nil=>rw [hbd] at hres;cases hres
      |cons x bs =>
       rw [hbd] at hres
       dsimp only at hres
       simp only [Option.bind_eq_some_iff] at hres
       obtain ⟨vars,hse,hres⟩:=hres
       exact call_cl p n N szs fuel R w ρ h B hr hfr hG K hK m s sb so hst X ac a b l hF h6 (by omega) k c hv bk hbk x bs hbd vars hse a' h' hres
end
end Go.Proofs.Ytadffbgbndibpaa
