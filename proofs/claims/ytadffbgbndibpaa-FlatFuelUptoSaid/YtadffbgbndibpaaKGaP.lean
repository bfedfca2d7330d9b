/- GaP: lemmas and walks of the claim. -/
import Derived.Test.YtadffbgbndibpaaKGaO
import Derived.Test.YtadffbgbndibpaaKGaF
set_option linter.unusedSectionVars false
set_option linter.unusedVariables false
set_option linter.unusedSimpArgs false
set_option maxHeartbeats 16000000
set_option maxRecDepth 100000
namespace Go.Proofs.Ytadffbgbndibpaa
open Go Go.RowKit
theorem blkAdd (b o k:Nat):(⟨b,o,none⟩:Addr).add k=⟨b,o+k,none⟩:=by unfold Addr.add;split <;> simp_all
theorem blkSize (w:World):(sizeOf (Try.prog.elem 92)).run Try.prog w= .ok 4 w:=by kernel_rfl
def restA (b o c:Nat):Option Addr:=if c=2 then some ⟨b,o,none⟩ else some ⟨b,o+8,none⟩
theorem blkSlice_lo (w:World) (b o n c:Nat) (hn:2≤n):(Instr.slice 92 (.slice (some ⟨b,o,none⟩) n c) (some (.int .i64 2)) none none).run Try.prog w= .ok (.slice (restA b o c) (n-2) (c-2)) w:=by
 rw [run_slice_l w 92 _ n c (by kernel_rfl) .i64 2 (by omega) (by omega),blkSize]
 simp only [Result.andThen_ok,sliced,Option.map_some,blkAdd]
 unfold restA
 rfl
theorem blkSlice_12 (w:World) (b o n c:Nat) (hn:2≤c):(Instr.slice 92 (.slice (some ⟨b,o,none⟩) n c) (some (.int .i64 1)) (some (.int .i64 2)) none).run Try.prog w= .ok (.slice (some ⟨b,o+4,none⟩) 1 (c-1)) w:=by
 rw [run_slice_lh w 92 _ n c (by kernel_rfl) .i64 .i64 1 2 (by omega) (by omega) (by omega),blkSize]
 simp only [Result.andThen_ok,sliced,Option.map_some,blkAdd]
 rw [if_neg (by show ¬c=1;omega)]
 rfl
theorem blkSlice_2k (w:World) (b o n c k:Nat) (hn:2<c) (hk:2+k≤c) (k1:Int) (h1:k1=2+(k:Int)):(Instr.slice 92 (.slice (some ⟨b,o,none⟩) n c) (some (.int .i64 2)) (some (.int .i64 k1)) none).run Try.prog w= .ok (.slice (some ⟨b,o+8,none⟩) k (c-2)) w:=by
 subst h1
 rw [run_slice_lh w 92 _ n c (by kernel_rfl) .i64 .i64 2 (2+(k:Int)) (by omega) (by omega) (by omega),blkSize]
 have e1:(2+(k:Int)).toNat=2+k:=by omega
 simp only [Result.andThen_ok,sliced,Option.map_some,blkAdd,e1]
 rw [if_neg (by show ¬c=2;omega),show 2+k-(2:Int).toNat=k by show 2+k-2=k;omega]
 rfl
section
variable {w:World} {ρ:Ghost} {N b o n c:Nat} {b0 b1:Bk} {l:List Bk} (h:BksR w ρ N (.slice (some ⟨b,o,none⟩) n c) (b0 :: b1 :: l))
include w ρ N b o n c b0 b1 l h
theorem BksR.rest:BksR w ρ N (.slice (restA b o c) l.length (c-2)) l:=by
 have h2:(b0 :: b1 :: l).length≤c:=by
  obtain ⟨A',c',hv,h2,h3⟩:=SlR.form h
  cases hv
  exact h2
 have hs:=SlR.sub h 2 (b0 :: b1 :: l).length c (by simp) (Nat.le_refl _) h2 (Nat.le_refl _)
 rw [List.take_length] at hs
 have e1:(b0 :: b1 :: l).length-2=l.length:=by simp
 have e2:(if c=2 then (some ⟨b,o,none⟩:Option Addr) else (some ⟨b,o,none⟩:Option Addr).map (·.add (2*4)))=restA b o c:=by
  unfold restA
  rw [Option.map_some,blkAdd]
 rw [e1,e2] at hs
 exact hs
theorem BksR.second:BksR w ρ N (.slice (some ⟨b,o+4,none⟩) 1 (c-1)) [b1]:=by
 have:=(SlR.oneAt h (k:=1) (x:=b1) rfl).1
 rw [Nat.one_mul] at this
 exact this
end
theorem armsC_drop {p:Pg} {ty:Int} {c:CS} {t:Ty} {l:List Bk} {k:Nat} {b:Bk} (h:l[k]? =some b):armsC p ty c t (l.take k) (l.drop k)=if codeOk p (l.take k) b then (blockC p ty c [intT] b.code b).andThen fun r=>if sameL [r.2] [t] then armsC p ty r.1 t (l.take (k+1)) (l.drop (k+1)) else .no else .no:=by
 obtain ⟨hlt,he⟩:=List.getElem?_eq_some_iff.1 h
 rw [drop_cons h,armsC,List.take_succ_eq_append_getElem hlt,he]
def handR (p:Pg) (ty:Int) (c:CS) (t:Ty) (b0 b1:Bk) (arms:List Bk):Rs CS :=
 (blockC p ty c [] 0 b0).andThen fun r=>(valuesC p ty r.1 [[r.2]] t [b1]).andThen fun c1=>armsC p ty c1 t [] arms
section
variable (p:Pg) (ty:Int)
include p ty
theorem nested_hand (c:CS) (s:St) (b0 b1:Bk) (arms:List Bk) (h:s.op=17) (hb:s.blocks=b0 :: b1 :: arms):nestedC p ty c s []=handR p ty c s.ty b0 b1 arms:=by
 unfold nestedC handR
 rw [if_neg (by omega),if_neg (by omega),if_neg (by omega),hb]
 show (blockC p ty c [] 0 b0).andThen _=(blockC p ty c [] 0 b0).andThen _
 cases blockC p ty c [] 0 b0 with
 |no=>rfl
 |big=>rfl
 |ok r =>
  show (blockC p ty r.1 [r.2] 0 b1).andThen _=((blockC p ty r.1 [r.2] 0 b1).andThen _).andThen _
  cases blockC p ty r.1 [r.2] 0 b1 with
  |no=>rfl
  |big=>rfl
  |ok r1 =>
   show (if sameL [r1.2] [s.ty] then _ else Rs.no)=(if sameL [r1.2] [s.ty] then valuesC p ty r1.1 [] s.ty [] else Rs.no).andThen _
   cases sameL [r1.2] [s.ty] <;> rfl
theorem nested_nohand (c:CS) (s:St) (ag:List Ty) (h:s.op=17) (hn:ag≠[]∨s.blocks.length<2):nestedC p ty c s ag= .no:=by
 unfold nestedC
 rw [if_neg (by omega),if_neg (by omega),if_neg (by omega)]
 by_cases ha:ag=[]
 ·rw [if_pos ha]
  rcases hn with hn|hn
  ·exact absurd ha hn
  ·match hb:s.blocks with
   |[]=>rfl
   |[_]=>rfl
   |_ :: _ :: l =>
    rw [hb] at hn
    simp only [List.length_cons] at hn
    omega
 ·rw [if_neg ha]
section
variable (nd N:Nat) (HBC:Hd (BlockC p ty nd N)) (w:World) (ρ:Ghost) (C:Nat) (hd:List Value) (mb:Nat) (c:CS) (s:St) (S0 S1 S2 S3 S4 S5 S6 S7 S8 S9:Option Addr) (s0 s1 s2 s3 s4 s5 s6 s7 s8 s9:Nat) (ag:List Ty) (G:Option Addr) (cg q:Nat) (hC:CkR (fun t=>formed1 p.datas ty t=true) w ρ C hd mb c false) (hK:CkS w ρ p ty nd hd) (hV:StV w ρ N s (.slice S0 s.ty.args.length s0) (.slice S1 s.ty.eff.regs.length s1) (.slice S2 s.ty.eff.vars.length s2) (.slice S3 s.args.length s3) (.slice S4 s.types.length s4) (.slice S5 s.effs.length s5) (.slice S6 s.regs.length s6) (.slice S7 s.modes.length s7) (.slice S8 s.keep.length s8) (.slice S9 s.blocks.length s9)) (hG:TysR w ρ q (.slice G ag.length cg) ag) (hFG:∀ t,t ∈ ag→formed1 p.datas ty t=true) (hFt:formed1 p.datas ty s.ty=true) (hop:s.op=17)
include nd N HBC w ρ C hd mb c s S0 S1 S2 S3 S4 S5 S6 S7 S8 S9 s0 s1 s2 s3 s4 s5 s6 s7 s8 s9 ag G cg q hC hK hV hG hFG hFt hop
theorem nested_17a (hna:ag≠[]) (hfr:Fresh w ρ) (ho:OnlyCk ρ) :
 Calls Try.prog 41 #[.pointer (some ⟨C,0,none⟩), .agg (stCells s (.slice S0 s.ty.args.length s0) (.slice S1 s.ty.eff.regs.length s1) (.slice S2 s.ty.eff.vars.length s2) (.slice S3 s.args.length s3) (.slice S4 s.types.length s4) (.slice S5 s.effs.length s5) (.slice S6 s.regs.length s6) (.slice S7 s.modes.length s7) (.slice S8 s.keep.length s8) (.slice S9 s.blocks.length s9)).toArray, .slice G ag.length cg] w fun e w'=>∃ ρ',e= .returned (.bool (nestedC p ty c s ag).isOk)∧CkP (fun t=>formed1 p.datas ty t=true) w ρ w' ρ' C hd mb c (nestedC p ty c s ag):=by
 have HOP:=Hd.mk hop
 obtain ⟨r,hr⟩:∃ z,nestedC p ty c s ag=z:=⟨_,rfl⟩
 rw [hr]
 have HR:=Hd.mk hr
 have HC:=Hd.mk hC
 have HK:=Hd.mk hK
 have HV:=Hd.mk hV
 have HG:=Hd.mk hG
 have HFG:=Hd.mk hFG
 have HFT:=Hd.mk hFt
 have HFR:=Hd.mk hfr
 have HO:=Hd.mk ho
 generalize hcs:(stCells s (.slice S0 s.ty.args.length s0) (.slice S1 s.ty.eff.regs.length s1) (.slice S2 s.ty.eff.vars.length s2) (.slice S3 s.args.length s3) (.slice S4 s.types.length s4) (.slice S5 s.effs.length s5) (.slice S6 s.regs.length s6) (.slice S7 s.modes.length s7) (.slice S8 s.keep.length s8) (.slice S9 s.blocks.length s9))=cs
 have HCE:=Hd.mk hcs
 have hg0:cs[0]? =some (.int .i64 17):=by rw [←hcs];rw [←hop];rfl
 have TWH:=Hd.mk (nested_world w ρ cs)
 have HNA:=Hd.mk hna
 clear hna hC hK hV hG hFG hFt hfr ho hr hcs hop
 match ag,HNA with
 |[],HNA=>exact absurd rfl HNA.out
 |a0 :: l0,_ =>
  have z1:((l0.length:Int)+1 == 0)=false:=by simp;omega
  have z2:((l0.length:Int)+1 != 0)=true:=by simp;omega
  have z3:¬((l0.length:Int)+1=0):=by omega
  have z4:decide ((l0.length:Int)+1=0)=false:=by simp;omega
  simp only [List.length_cons]
  go_enter Try.func41,Try.ntmps41
  go_wp2_with fail
  generalize hX9:w.heap.size+1+1+1=X9 at TWH ⊢
  generalize hX8:w.heap.size+1+1=X8 at TWH ⊢
  generalize hX7:w.heap.size+1=X7 at TWH ⊢
  generalize hX4:w.heap.size=X4 at TWH ⊢
  have HX:=Hd.mk (And.intro hX4 (And.intro hX7 (And.intro hX8 hX9)))
  clear hX4 hX7 hX8 hX9
  generalize (((w.alloc (.cells cs.toArray 94)).alloc (.cells #[.int .i64 0, .int .i64 0, .string ⟨#[]⟩, .slice none 0 0, .int .i64 0, .slice none 0 0, .slice none 0 0] 43)).alloc (.cells #[.int .i64 1, .int .i64 0, .string ⟨#[]⟩, .slice none 0 0, .int .i64 0, .slice none 0 0, .slice none 0 0] 43))=W at *
  have HSW:=Hd.mk TWH.out.step
  have HCW:=Hd.mk (HC.out.step HSW.out (fun _ _ h=>h))
  have HKW:=Hd.mk (HK.out.step HSW.out)
  have HVW:=Hd.mk (HV.out.step HSW.out)
  have HGW:=Hd.mk (HG.out.step HSW.out)
  have HFW:=Hd.mk (HSW.out.fresh HFR.out)
  have n4:ρ X4=none:=HFR.out _ (by have:=HX.out.1;omega)
  have l4:X4<W.heap.size:=TWH.out.b4.lt
  have hrr:r= .no:=by rw [←HR.out];exact nested_nohand p ty c s _ HOP.out (.inl (by simp))
  subst hrr
  have HSc:=Hd.mk (Step.refl (fun _=>False) W ρ)
  go_ret
  first|exact ⟨ρ,rfl,(((CkP.refl HC.out HO.out).after (HSW.out.trans HSc.out)).no rfl)⟩|exact ⟨rfl,ρ,(((CkP.refl HC.out HO.out).after (HSW.out.trans HSc.out)).no rfl)⟩
theorem nested_17b (hna:ag=[]) (hb2:s.blocks.length<2) (hfr:Fresh w ρ) (ho:OnlyCk ρ) :
 Calls Try.prog 41 #[.pointer (some ⟨C,0,none⟩), .agg (stCells s (.slice S0 s.ty.args.length s0) (.slice S1 s.ty.eff.regs.length s1) (.slice S2 s.ty.eff.vars.length s2) (.slice S3 s.args.length s3) (.slice S4 s.types.length s4) (.slice S5 s.effs.length s5) (.slice S6 s.regs.length s6) (.slice S7 s.modes.length s7) (.slice S8 s.keep.length s8) (.slice S9 s.blocks.length s9)).toArray, .slice G ag.length cg] w fun e w'=>∃ ρ',e= .returned (.bool (nestedC p ty c s ag).isOk)∧CkP (fun t=>formed1 p.datas ty t=true) w ρ w' ρ' C hd mb c (nestedC p ty c s ag):=by
 subst hna
 have HOP:=Hd.mk hop
 obtain ⟨r,hr⟩:∃ z,nestedC p ty c s []=z:=⟨_,rfl⟩
 rw [hr]
 have HR:=Hd.mk hr
 have HC:=Hd.mk hC
 have HK:=Hd.mk hK
 have HV:=Hd.mk hV
 have HG:=Hd.mk hG
 have HFG:=Hd.mk hFG
 have HFT:=Hd.mk hFt
 have HFR:=Hd.mk hfr
 have HO:=Hd.mk ho
 have hb2i:((s.blocks.length:Nat):Int)<2:=by omega
 have z1:decide (((s.blocks.length:Nat):Int)<2)=true:=by simp;omega
 have HB2:=Hd.mk hb2
 clear hb2
 generalize hcs:(stCells s (.slice S0 s.ty.args.length s0) (.slice S1 s.ty.eff.regs.length s1) (.slice S2 s.ty.eff.vars.length s2) (.slice S3 s.args.length s3) (.slice S4 s.types.length s4) (.slice S5 s.effs.length s5) (.slice S6 s.regs.length s6) (.slice S7 s.modes.length s7) (.slice S8 s.keep.length s8) (.slice S9 s.blocks.length s9))=cs
 have HCE:=Hd.mk hcs
 have hg0:cs[0]? =some (.int .i64 17):=by rw [←hcs];rw [←hop];rfl
 have hg18:cs[18]? =some (.slice S9 s.blocks.length s9):=by rw [←hcs];rfl
 have TWH:=Hd.mk (nested_world w ρ cs)
 clear hC hK hV hG hFG hFt hfr ho hr hcs hop
 simp only [List.length_nil]
 go_enter Try.func41,Try.ntmps41
 go_wp2_with fail
 generalize hX9:w.heap.size+1+1+1=X9 at TWH ⊢
 generalize hX8:w.heap.size+1+1=X8 at TWH ⊢
 generalize hX7:w.heap.size+1=X7 at TWH ⊢
 generalize hX4:w.heap.size=X4 at TWH ⊢
 have HX:=Hd.mk (And.intro hX4 (And.intro hX7 (And.intro hX8 hX9)))
 clear hX4 hX7 hX8 hX9
 generalize (((w.alloc (.cells cs.toArray 94)).alloc (.cells #[.int .i64 0, .int .i64 0, .string ⟨#[]⟩, .slice none 0 0, .int .i64 0, .slice none 0 0, .slice none 0 0] 43)).alloc (.cells #[.int .i64 1, .int .i64 0, .string ⟨#[]⟩, .slice none 0 0, .int .i64 0, .slice none 0 0, .slice none 0 0] 43))=W at *
 have HSW:=Hd.mk TWH.out.step
 have HCW:=Hd.mk (HC.out.step HSW.out (fun _ _ h=>h))
 have HKW:=Hd.mk (HK.out.step HSW.out)
 have HVW:=Hd.mk (HV.out.step HSW.out)
 have HGW:=Hd.mk (HG.out.step HSW.out)
 have HFW:=Hd.mk (HSW.out.fresh HFR.out)
 have n4:ρ X4=none:=HFR.out _ (by have:=HX.out.1;omega)
 have l4:X4<W.heap.size:=TWH.out.b4.lt
 have hrr:r= .no:=by rw [←HR.out];exact nested_nohand p ty c s _ HOP.out (.inr HB2.out)
 subst hrr
 have HSc:=Hd.mk (Step.refl (fun _=>False) W ρ)
 go_ret
 first|exact ⟨ρ,rfl,(((CkP.refl HC.out HO.out).after (HSW.out.trans HSc.out)).no rfl)⟩|exact ⟨rfl,ρ,(((CkP.refl HC.out HO.out).after (HSW.out.trans HSc.out)).no rfl)⟩
theorem nested_17c (hna:ag=[]) (b0 b1:Bk) (arms:List Bk) (hbl:s.blocks=b0 :: b1 :: arms) (hfr:Fresh w ρ) (ho:OnlyCk ρ) :
 Calls Try.prog 41 #[.pointer (some ⟨C,0,none⟩), .agg (stCells s (.slice S0 s.ty.args.length s0) (.slice S1 s.ty.eff.regs.length s1) (.slice S2 s.ty.eff.vars.length s2) (.slice S3 s.args.length s3) (.slice S4 s.types.length s4) (.slice S5 s.effs.length s5) (.slice S6 s.regs.length s6) (.slice S7 s.modes.length s7) (.slice S8 s.keep.length s8) (.slice S9 s.blocks.length s9)).toArray, .slice G ag.length cg] w fun e w'=>∃ ρ',e= .returned (.bool (nestedC p ty c s ag).isOk)∧CkP (fun t=>formed1 p.datas ty t=true) w ρ w' ρ' C hd mb c (nestedC p ty c s ag):=by
 subst hna
 have HOP:=Hd.mk hop
 obtain ⟨r,hr⟩:∃ z,nestedC p ty c s []=z:=⟨_,rfl⟩
 rw [hr]
 have HR:=Hd.mk hr
 have HC:=Hd.mk hC
 have HK:=Hd.mk hK
 have HV:=Hd.mk hV
 have HG:=Hd.mk hG
 have HFG:=Hd.mk hFG
 have HFT:=Hd.mk hFt
 have HFR:=Hd.mk hfr
 have HO:=Hd.mk ho
 have hbk:=hV.blocks
 rw [hbl] at hbk
 obtain ⟨bS,oS,vb,vs,hLA,hRb,p0,p1,p2,p3⟩:=hbk.elem (k:=0) (t:=b0) rfl
 obtain ⟨mN,_,_,hmN,hcsb,_,_,hbi,hst⟩:=hRb.shape
 simp only [List.cons.injEq,and_true,true_and] at hcsb
 obtain ⟨rfl,rfl⟩:=hcsb
 obtain ⟨B1,k1,rfl,_,_⟩:=SlR.form hbi
 obtain ⟨B2,k2,rfl,_,_⟩:=SlR.form hst
 obtain ⟨bS',oS',hbS,nS,lS⟩:∃ b o,S9=some ⟨b,o,none⟩∧ρ b=none∧b<w.heap.size:=by
  obtain ⟨A',c',hv,_,_,_,h5⟩:=hbk.out
  cases hv
  obtain ⟨b,o,cs0,f1,f2,f3,_⟩:=h5 0 b0 rfl
  exact ⟨b,o,f1,f2,f3⟩
 subst hLA
 cases hbS
 rw [Nat.zero_mul,Nat.add_zero] at p0 p1 p2 p3
 simp only [List.length_cons] at hbk
 have HBK:=Hd.mk hbk
 have HRB:=Hd.mk hRb
 have HLB:Hd (s.blocks.length=arms.length+1+1):=⟨by rw [hbl];rfl⟩
 have HRN:Hd (r=handR p ty c s.ty b0 b1 arms):=⟨by rw [←hr];exact nested_hand p ty c s b0 b1 arms hop hbl⟩
 have lS2:arms.length+2≤s9:=by
  obtain ⟨A',c',hv,h2,h3⟩:=SlR.form hbk
  cases hv
  exact h2
 have lA1:arms.length*64≤140737488355328∧s9≤9223372036854775807:=by
  obtain ⟨A',c',hv,h2,h3,h4,_⟩:=hbk.out
  cases hv
  simp only [List.length_cons] at h4
  unfold maxLen at h3
  omega
 obtain ⟨lA1,lS9⟩:=lA1
 have z1:¬((arms.length:Int)+1+1<2):=by omega
 have z2:decide ((arms.length:Int)+1+1<2)=false:=by simp;omega
 have nS':=Hd.mk nS
 clear hbk hRb hbi hst hmN nS hbl
 generalize hcs:(stCells s (.slice S0 s.ty.args.length s0) (.slice S1 s.ty.eff.regs.length s1) (.slice S2 s.ty.eff.vars.length s2) (.slice S3 s.args.length s3) (.slice S4 s.types.length s4) (.slice S5 s.effs.length s5) (.slice S6 s.regs.length s6) (.slice S7 s.modes.length s7) (.slice S8 s.keep.length s8) (.slice (some ⟨bS,oS,none⟩) s.blocks.length s9))=cs
 have HCE:=Hd.mk hcs
 have hg0:cs[0]? =some (.int .i64 17):=by rw [←hcs];rw [←hop];rfl
 have hg18:cs[18]? =some (.slice (some ⟨bS,oS,none⟩) (arms.length+1+1) s9):=by rw [←hcs];exact (rfl:_=some (.slice (some ⟨bS,oS,none⟩) s.blocks.length s9:Value)).trans (by rw [HLB.out])
 have TWH:=Hd.mk (nested_world w ρ cs)
 clear hC hK hV hG hFG hFt hfr ho hr hcs hop
 simp only [List.length_nil]
 have P0:=TWH.out.step.cell (a:=⟨bS,oS,none⟩) lS nS'.out p0
 have P1:=TWH.out.step.cell (a:=⟨bS,oS+1,none⟩) lS nS'.out p1
 have P2:=TWH.out.step.cell (a:=⟨bS,oS+2,none⟩) lS nS'.out p2
 have P3:=TWH.out.step.cell (a:=⟨bS,oS+3,none⟩) lS nS'.out p3
 clear p0 p1 p2 p3
 go_enter Try.func41,Try.ntmps41
 go_wp2_with fail
 generalize hX9:w.heap.size+1+1+1=X9 at TWH ⊢
 generalize hX8:w.heap.size+1+1=X8 at TWH ⊢
 generalize hX7:w.heap.size+1=X7 at TWH ⊢
 generalize hX4:w.heap.size=X4 at TWH ⊢
 have HX:=Hd.mk (And.intro hX4 (And.intro hX7 (And.intro hX8 hX9)))
 clear hX4 hX7 hX8 hX9
 generalize (((w.alloc (.cells cs.toArray 94)).alloc (.cells #[.int .i64 0, .int .i64 0, .string ⟨#[]⟩, .slice none 0 0, .int .i64 0, .slice none 0 0, .slice none 0 0] 43)).alloc (.cells #[.int .i64 1, .int .i64 0, .string ⟨#[]⟩, .slice none 0 0, .int .i64 0, .slice none 0 0, .slice none 0 0] 43))=W at *
 have HSW:=Hd.mk TWH.out.step
 have HCW:=Hd.mk (HC.out.step HSW.out (fun _ _ h=>h))
 have HKW:=Hd.mk (HK.out.step HSW.out)
 have HVW:=Hd.mk (HV.out.step HSW.out)
 have HGW:=Hd.mk (HG.out.step HSW.out)
 have HFW:=Hd.mk (HSW.out.fresh HFR.out)
 have n4:ρ X4=none:=HFR.out _ (by have:=HX.out.1;omega)
 have l4:X4<W.heap.size:=TWH.out.b4.lt
 have HBKW:=Hd.mk (HBK.out.step HSW.out)
 have HN4:=Hd.mk n4
 have HN7:Hd (ρ X7=none):=⟨HFR.out _ (by have:=HX.out;omega)⟩
 have hcall:=HBC.out W ρ C hd mb c b0 B1 B2 k1 k2 [] none 0 0 0 HCW.out HKW.out (BkR.step HSW.out _ HRB.out) (SlR.nil _ _ _ _ _) (fun t h=>by cases h) HFW.out HO.out ⟨by decide,by decide⟩
 obtain ⟨rb,hrb⟩:∃ z,blockC p ty c [] 0 b0=z:=⟨_,rfl⟩
 rw [hrb] at hcall
 have HRB0:=Hd.mk hrb
 have HCALL:=Hd.mk hcall
 clear hcall hrb P0 P1 P2 P3 hg0 hg18 n4 l4 z1 z2 lS
 refine HCALL.out.mono ?_
 rintro e W5 ⟨ρ5,tn,D0,D1,D2,d0,d1,d2,rfl,⟨nt,hTn⟩,hok,hP5⟩
 have HP5:=Hd.mk (((CkP.refl HC.out HO.out).after HSW.out).andThen hP5)
 have HPB:=Hd.mk hP5
 have HTN:=Hd.mk hTn
 have HOK:=Hd.mk hok
 clear hTn hok hP5 HCALL
 cases rb with
 |no =>
  have hrr:r= .no:=by rw [HRN.out];unfold handR;rw [HRB0.out];rfl
  subst hrr
  simp only [Rs.isOk]
  have hb6:=Blk.new' W5 #[.int .i64 tn.kind, .int .i64 tn.n, .string tn.name, .slice D0 tn.args.length d0, .int .i64 tn.region, .slice D1 tn.eff.regs.length d1, .slice D2 tn.eff.vars.length d2] 43
  have hs6:=(Step.refl (fun _=>False) W5 ρ5).alloc (.cells #[.int .i64 tn.kind, .int .i64 tn.n, .string tn.name, .slice D0 tn.args.length d0, .int .i64 tn.region, .slice D1 tn.eff.regs.length d1, .slice D2 tn.eff.vars.length d2] 43)
  go_wp2_with fail
  generalize W5.alloc (.cells #[.int .i64 tn.kind, .int .i64 tn.n, .string tn.name, .slice D0 tn.args.length d0, .int .i64 tn.region, .slice D1 tn.eff.regs.length d1, .slice D2 tn.eff.vars.length d2] 43)=W6 at *
  generalize W5.heap.size=X9 at *
  have HP6:=Hd.mk (HP5.out.after hs6)
  clear hb6 hs6
  have HSc:=Hd.mk ((Step.refl (fun _=>False) W6 ρ5).drew)
  refine wp_region_held_drew (S:=(fun wv=>Step (fun _=>False) W6 ρ5 wv ρ5∧∀ a:Addr,a.block<W6.heap.size→wv.cell? a=W6.cell? a)) (by kernel_rfl) (keepS_of HSc.out) (fun hHeld=>?_)
  refine tkP 0 ?_
  refine tkP 1 ?_
  refine tkP 2 ?_
  refine tkU 3 ?_
  refine tkU 4 ?_
  refine tkU 5 ?_
  refine tkU 6 ?_
  refine tkU 7 ?_
  refine tkU 8 ?_
  refine tkU 9 ?_
  refine tkU 10 ?_
  refine tkU 11 ?_
  refine tkU 12 ?_
  refine tkU 13 ?_
  refine tkP 14 ?_
  refine wpAnyH_done (by kernel_rfl) ?_ _
  go_wp2
  go_ret
  first|exact ⟨ρ5,rfl,(HP6.out.after HSc.out)⟩|exact ⟨rfl,ρ5,(HP6.out.after HSc.out)⟩
 |big =>
  have hrr:r= .big:=by rw [HRN.out];unfold handR;rw [HRB0.out];rfl
  subst hrr
  simp only [Rs.isOk]
  have hb6:=Blk.new' W5 #[.int .i64 tn.kind, .int .i64 tn.n, .string tn.name, .slice D0 tn.args.length d0, .int .i64 tn.region, .slice D1 tn.eff.regs.length d1, .slice D2 tn.eff.vars.length d2] 43
  have hs6:=(Step.refl (fun _=>False) W5 ρ5).alloc (.cells #[.int .i64 tn.kind, .int .i64 tn.n, .string tn.name, .slice D0 tn.args.length d0, .int .i64 tn.region, .slice D1 tn.eff.regs.length d1, .slice D2 tn.eff.vars.length d2] 43)
  go_wp2_with fail
  generalize W5.alloc (.cells #[.int .i64 tn.kind, .int .i64 tn.n, .string tn.name, .slice D0 tn.args.length d0, .int .i64 tn.region, .slice D1 tn.eff.regs.length d1, .slice D2 tn.eff.vars.length d2] 43)=W6 at *
  generalize W5.heap.size=X9 at *
  have HP6:=Hd.mk (HP5.out.after hs6)
  clear hb6 hs6
  have HSc:=Hd.mk ((Step.refl (fun _=>False) W6 ρ5).drew)
  refine wp_region_held_drew (S:=(fun wv=>Step (fun _=>False) W6 ρ5 wv ρ5∧∀ a:Addr,a.block<W6.heap.size→wv.cell? a=W6.cell? a)) (by kernel_rfl) (keepS_of HSc.out) (fun hHeld=>?_)
  refine tkP 0 ?_
  refine tkP 1 ?_
  refine tkP 2 ?_
  refine tkU 3 ?_
  refine tkU 4 ?_
  refine tkU 5 ?_
  refine tkU 6 ?_
  refine tkU 7 ?_
  refine tkU 8 ?_
  refine tkU 9 ?_
  refine tkU 10 ?_
  refine tkU 11 ?_
  refine tkU 12 ?_
  refine tkU 13 ?_
  refine tkP 14 ?_
  refine wpAnyH_done (by kernel_rfl) ?_ _
  go_wp2
  go_ret
  first|exact ⟨ρ5,rfl,(HP6.out.after HSc.out)⟩|exact ⟨rfl,ρ5,(HP6.out.after HSc.out)⟩
 |ok r1 =>
  obtain ⟨e1,hf1⟩:=HOK.out r1 rfl
  have HE1:=Hd.mk e1
  have HF1:=Hd.mk hf1
  have HP5k:Hd (CkP (fun t=>formed1 p.datas ty t=true) w ρ W5 ρ5 C hd mb c (.ok r1.1)):=HP5
  have HPBk:Hd (CkP (fun t=>formed1 p.datas ty t=true) W ρ W5 ρ5 C hd mb c (.ok r1.1)):=HPB
  simp only [Rs.isOk]
  clear e1 hf1 HP5 HPB
  have n9:ρ5 W5.heap.size=none:=HP5k.out.step.fresh HFR.out _ (Nat.le_refl _)
  have hb6:=Blk.new' W5 #[.int .i64 tn.kind, .int .i64 tn.n, .string tn.name, .slice D0 tn.args.length d0, .int .i64 tn.region, .slice D1 tn.eff.regs.length d1, .slice D2 tn.eff.vars.length d2] 43
  have hs6:=(Step.refl (fun _=>False) W5 ρ5).alloc (.cells #[.int .i64 tn.kind, .int .i64 tn.n, .string tn.name, .slice D0 tn.args.length d0, .int .i64 tn.region, .slice D1 tn.eff.regs.length d1, .slice D2 tn.eff.vars.length d2] 43)
  go_wp2_with fail
  generalize W5.alloc (.cells #[.int .i64 tn.kind, .int .i64 tn.n, .string tn.name, .slice D0 tn.args.length d0, .int .i64 tn.region, .slice D1 tn.eff.regs.length d1, .slice D2 tn.eff.vars.length d2] 43)=W6 at *
  generalize W5.heap.size=X9 at *
  have HP6:Hd (CkP (fun t=>formed1 p.datas ty t=true) w ρ W6 ρ5 C hd mb c (.ok r1.1)):=⟨HP5k.out.after hs6⟩
  have hW6:Step CkT W ρ W6 ρ5:=(HPBk.out.after hs6).step
  have HW6:=Hd.mk hW6
  have HC6:=Hd.mk HP6.out.ck
  have HK6:=Hd.mk (HKW.out.step hW6)
  have HBK6:=Hd.mk (HBKW.out.step hW6)
  have HB61:=Hd.mk HBK6.out.second
  have HST6:=Hd.mk (TyR.step hW6 _ HVW.out.ty)
  have HT6:=Hd.mk (TyR.step hs6 _ HTN.out)
  have HF6:=Hd.mk (hW6.fresh HFW.out)
  have hb4:=hW6.blk TWH.out.b4 (fun t ht=>by rw [HN4.out] at ht;cases ht)
  have n4:ρ5 X4=none:=hW6.tag TWH.out.b4.lt HN4.out
  have l4:=hb4.lt
  have l9:=hb6.lt
  have y0:W6.cell? ⟨X9,0,none⟩=some (.int .i64 tn.kind):=hb6.cell (i:=0) rfl
  have y1:W6.cell? ⟨X9,1,none⟩=some (.int .i64 tn.n):=hb6.cell (i:=1) rfl
  have y2:W6.cell? ⟨X9,2,none⟩=some (.string tn.name):=hb6.cell (i:=2) rfl
  have y3:W6.cell? ⟨X9,3,none⟩=some (.slice D0 tn.args.length d0):=hb6.cell (i:=3) rfl
  have y4:W6.cell? ⟨X9,4,none⟩=some (.int .i64 tn.region):=hb6.cell (i:=4) rfl
  have y5:W6.cell? ⟨X9,5,none⟩=some (.slice D1 tn.eff.regs.length d1):=hb6.cell (i:=5) rfl
  have y6:W6.cell? ⟨X9,6,none⟩=some (.slice D2 tn.eff.vars.length d2):=hb6.cell (i:=6) rfl
  have HFF:Hd (∀ x t,x ∈ [[tn]]→t ∈ x→formed1 p.datas ty t=true):=⟨fun x t hx ht=>by
   rw [List.mem_singleton] at hx
   subst hx
   rw [List.mem_singleton] at ht
   subst ht
   exact HF1.out⟩
  obtain ⟨rv,hrv⟩:∃ z,valuesC p ty r1.1 [[tn]] s.ty [b1]=z:=⟨_,rfl⟩
  have HRN2:Hd (r=rv.andThen fun c1=>armsC p ty c1 s.ty [] arms):=⟨by
   rw [HRN.out, ←hrv,HE1.out]
   unfold handR
   rw [HRB0.out]
   rfl⟩
  have HRV:=Hd.mk hrv
  have hsl:∀ W,(Instr.slice 92 (.slice (some ⟨bS,oS,none⟩) (arms.length+1+1) s9) (some (.int .i64 1)) (some (.int .i64 2)) none).run Try.prog W= .ok (.slice (some ⟨bS,oS+4,none⟩) 1 (s9-1)) W:=fun W=>blkSlice_12 W bS oS _ s9 (by omega)
  have e2:W6.cell? ⟨X4,2,none⟩=some (.int .i64 s.ty.kind):=hb4.cell (i:=2) (by rw [←HCE.out];exact rfl)
  have e3:W6.cell? ⟨X4,3,none⟩=some (.int .i64 s.ty.n):=hb4.cell (i:=3) (by rw [←HCE.out];exact rfl)
  have e4:W6.cell? ⟨X4,4,none⟩=some (.string s.ty.name):=hb4.cell (i:=4) (by rw [←HCE.out];exact rfl)
  have e5:W6.cell? ⟨X4,5,none⟩=some (.slice S0 s.ty.args.length s0):=hb4.cell (i:=5) (by rw [←HCE.out];exact rfl)
  have e6:W6.cell? ⟨X4,6,none⟩=some (.int .i64 s.ty.region):=hb4.cell (i:=6) (by rw [←HCE.out];exact rfl)
  have e7:W6.cell? ⟨X4,7,none⟩=some (.slice S1 s.ty.eff.regs.length s1):=hb4.cell (i:=7) (by rw [←HCE.out];exact rfl)
  have e8:W6.cell? ⟨X4,8,none⟩=some (.slice S2 s.ty.eff.vars.length s2):=hb4.cell (i:=8) (by rw [←HCE.out];exact rfl)
  have e18:W6.cell? ⟨X4,18,none⟩=some (.slice (some ⟨bS,oS,none⟩) (arms.length+1+1) s9):=hb4.cell (i:=18) (by rw [←HCE.out];exact (rfl:_=some (.slice (some ⟨bS,oS,none⟩) s.blocks.length s9:Value)).trans (by rw [HLB.out]))
  have HB4:=Hd.mk hb4
  have HB9:=Hd.mk hb6
  clear hb4 hb6 hs6 hW6 hrv
  have HSc:=Hd.mk ((Step.refl (fun _=>False) W6 ρ5).drew)
  refine wp_region_held_drew (S:=(fun wv=>∀ a:Addr,a.block<W6.heap.size→ρ5 a.block=none→wv.cell? a=W6.cell? a)) (by kernel_rfl) (keepU_of HSc.out) (fun hHeld=>?_)
  refine tkP 0 ?_
  refine tkP 1 ?_
  refine tkP 2 ?_
  refine tkP 3 ?_
  refine tkP 4 ?_
  refine tkP 5 ?_
  refine tkP 6 ?_
  refine tkP 7 ?_
  refine tkP 10 ?_
  refine tkP 11 ?_
  refine tkR 8 (fun K hK=>?_)
  go_simp
  refine tkK hK (by first|exact keepU_of HSc.out|exact keepU_of (HSc.out.alloc _)|exact keepU_of ((HSc.out.alloc _).alloc _)) (fun hHeld=>?_)
  clear hK K
  refine tkR 9 (fun K hK=>?_)
  go_simp
  refine tkK hK (by first|exact keepU_of HSc.out|exact keepU_of (HSc.out.alloc _)|exact keepU_of ((HSc.out.alloc _).alloc _)) (fun hHeld=>?_)
  clear hK K
  refine tkR 12 (fun K hK=>?_)
  go_simp
  go_at_call 54
  have hbx:=Blk.new W6 (tyCells tn (.slice D0 tn.args.length d0) (.slice D1 tn.eff.regs.length d1) (.slice D2 tn.eff.vars.length d2)) 43
  have hsa:=(Step.refl (fun _=>False) W6 ρ5).alloc (.cells #[.int .i64 tn.kind, .int .i64 tn.n, .string tn.name, .slice D0 tn.args.length d0, .int .i64 tn.region, .slice D1 tn.eff.regs.length d1, .slice D2 tn.eff.vars.length d2] 43)
  have hsz:=size_alloc W6 (.cells #[.int .i64 tn.kind, .int .i64 tn.n, .string tn.name, .slice D0 tn.args.length d0, .int .i64 tn.region, .slice D1 tn.eff.regs.length d1, .slice D2 tn.eff.vars.length d2] 43)
  have h1:=TysR.one (t:=tn) hbx (HF6.out _ (Nat.le_refl _)) (TyR.step hsa _ HT6.out)
  generalize hW7:W6.alloc (.cells #[.int .i64 tn.kind, .int .i64 tn.n, .string tn.name, .slice D0 tn.args.length d0, .int .i64 tn.region, .slice D1 tn.eff.regs.length d1, .slice D2 tn.eff.vars.length d2] 43)=W7 at hsa hsz ⊢
  rw [show (W6.alloc (.cells ((tyCells tn (.slice D0 tn.args.length d0) (.slice D1 tn.eff.regs.length d1) (.slice D2 tn.eff.vars.length d2)):List Value).toArray 43))=W7 from hW7] at hbx h1
  have hbx2:=Blk.newAt hsz [.slice (some ⟨W6.heap.size,0,none⟩) 1 1] 41
  have hsb:=(hsa.alloc (.cells #[.slice (some ⟨W6.heap.size,0,none⟩) 1 1] 41)).drew
  have h2:=LtsR.one hbx2 (HF6.out _ (Nat.le_succ _)) (h1.step ((Step.refl (fun _=>False) W7 ρ5).alloc _))
  have hcall:=blocks_any p ty nd N HBC _ ρ5 C hd mb r1.1 [b1] [[tn]] s.ty (some ⟨bS,oS+4,none⟩) (some ⟨W6.heap.size+1,0,none⟩) (s9-1) 1 nt N S0 S1 S2 s0 s1 s2 (HC6.out.step hsb (fun _ _ h=>h)) (HK6.out.step hsb) (HB61.out.step hsb) (h2.step ((Step.refl (fun _=>False) _ ρ5).drew)) rfl HFF.out (TyR.step hsb _ HST6.out) (hsb.fresh HF6.out) HP6.out.only
  rw [HRV.out] at hcall
  refine hcall.mono ?_
  rintro e Wn ⟨ρn,rfl,hPn⟩
  have HPN:=Hd.mk hPn
  have HSA:=Hd.mk hsb
  have HSc:=Hd.mk ((hsb.mono (fun _ h=>h.elim):Step CkT _ _ _ _).trans hPn.step)
  clear hbx hsa h1 hcall hPn hbx2 hsb h2 hsz hW7
  go_wp2_with fail
  refine tkK hK (by first|exact keepU_of HSc.out|exact keepU_of (HSc.out.alloc _)|exact keepU_of ((HSc.out.alloc _).alloc _)) (fun hHeld=>?_)
  clear hK K
  refine tkP 13 ?_
  refine tkP 14 ?_
  refine wpAnyH_done (by kernel_rfl) ?_ _
  have HP7:=Hd.mk ((HP6.out.after HSA.out).andThen HPN.out)
  have HS6n:=Hd.mk HSc.out
  clear HSc hsl y0 y1 y2 y3 y4 y5 y6 e2 e3 e4 e5 e6 e7 e8 e18 l4 l9
  cases rv with
  |no =>
   have hrr:r= .no:=HRN2.out
   subst hrr
   simp only [Rs.isOk]
   go_wp2
   go_ret
   exact ⟨ρn,rfl,HP7.out⟩
  |big =>
   have hrr:r= .big:=HRN2.out
   subst hrr
   simp only [Rs.isOk]
   go_wp2
   go_ret
   exact ⟨ρn,rfl,HP7.out⟩
  |ok c1 =>
   have HRN3:Hd (r=armsC p ty c1 s.ty [] arms):=HRN2
   simp only [Rs.isOk,Bool.not_true]
   have hW7:=(HW6.out.trans HS6n.out)
   have HWN:=Hd.mk hW7
   have HP8:Hd (CkP (fun t=>formed1 p.datas ty t=true) w ρ Wn ρn C hd mb c (.ok c1)):=HP7
   have hb4:=hW7.blk TWH.out.b4 (fun t ht=>by rw [HN4.out] at ht;cases ht)
   have l4:=hb4.lt
   have lS9i:(s9:Int)≤9223372036854775807:=by omega
   have e18:Wn.cell? ⟨X4,18,none⟩=some (.slice (some ⟨bS,oS,none⟩) (arms.length+1+1) s9):=hb4.cell (i:=18) (by rw [←HCE.out];exact (rfl:_=some (.slice (some ⟨bS,oS,none⟩) s.blocks.length s9:Value)).trans (by rw [HLB.out]))
   clear hb4 hW7 HP7
   by_cases ha0:arms.length=0
   ·have hsl:∀ W,(Instr.slice 92 (.slice (some ⟨bS,oS,none⟩) (arms.length+1+1) s9) (some (.int .i64 2)) none none).run Try.prog W= .ok (.slice (restA bS oS s9) arms.length (s9-2)) W:=fun W=>blkSlice_lo W bS oS _ s9 (by omega)
    have hlt0:¬((0:Int)<(arms.length:Int)):=by omega
    have HA0:=Hd.mk ha0
    clear ha0
    go_wp2_with fail
    go_loopw [10,149] (fun vo vk wr=>∃ (k:Nat) (ck:CS) (ρk:Ghost),vo= .bool true∧vk= .int .i64 k∧k≤arms.length∧armsC p ty c1 s.ty [] arms=armsC p ty ck s.ty (arms.take k) (arms.drop k)∧CkP (fun t=>formed1 p.datas ty t=true) w ρ wr ρk C hd mb c (.ok ck)∧Step CkT W ρ wr ρk∧Step CkT Wn ρn wr ρk) (fun _ v _=>arms.length-(intOf v).toNat)
    case atStart=>exact ⟨0,c1,ρn,rfl,by simp,by omega,by simp,HP8.out,HWN.out,Step.refl _ _ _⟩
    case round =>
     obtain ⟨k,ck,ρk,rfl,rfl,hk,he,hP,hS,hSn⟩:=hrel
     have HE:=Hd.mk he
     have HP:=Hd.mk hP
     have HSK:=Hd.mk hS
     have HSKn:=Hd.mk hSn
     clear he hP hS hSn
     have hk0:k=0:=by have:=HA0.out;omega
     have hlt:¬((k:Int)<(arms.length:Int)):=by omega
     clear hk0
     have hke:k=arms.length:=by omega
     have hE:=HE.out
     rw [hke,List.drop_length,armsC] at hE
     have hrr:r= .ok ck:=by rw [HRN3.out,hE]
     subst hrr
     clear hE hke
     go_wp2
     go_ret
     first|exact ⟨ρk,rfl,HP.out⟩|exact ⟨rfl,ρk,HP.out⟩
   ·have hres:restA bS oS s9=some ⟨bS,oS+8,none⟩:=by unfold restA;rw [if_neg (by omega)]
    have harm:=(HBKW.out.step HWN.out).rest
    rw [hres] at harm
    have HARM:=Hd.mk harm
    have hsl:∀ W,(Instr.slice 92 (.slice (some ⟨bS,oS,none⟩) (arms.length+1+1) s9) (some (.int .i64 2)) none none).run Try.prog W= .ok (.slice (some ⟨bS,oS+8,none⟩) arms.length (s9-2)) W:=fun W=>by rw [←hres];exact blkSlice_lo W bS oS _ s9 (by omega)
    have lS3:2<s9:=by omega
    clear hres harm ha0
    go_wp2_with fail
    clear hsl
    go_loopw [10,149] (fun vo vk wr=>∃ (k:Nat) (ck:CS) (ρk:Ghost),vo= .bool true∧vk= .int .i64 k∧k≤arms.length∧armsC p ty c1 s.ty [] arms=armsC p ty ck s.ty (arms.take k) (arms.drop k)∧CkP (fun t=>formed1 p.datas ty t=true) w ρ wr ρk C hd mb c (.ok ck)∧Step CkT W ρ wr ρk∧Step CkT Wn ρn wr ρk) (fun _ v _=>arms.length-(intOf v).toNat)
    case atStart=>exact ⟨0,c1,ρn,rfl,by simp,by omega,by simp,HP8.out,HWN.out,Step.refl _ _ _⟩
    case round =>
     obtain ⟨k,ck,ρk,rfl,rfl,hk,he,hP,hS,hSn⟩:=hrel
     have HE:=Hd.mk he
     have HP:=Hd.mk hP
     have HSK:=Hd.mk hS
     have HSKn:=Hd.mk hSn
     clear he hP hS hSn
     obtain ⟨Wr,rfl⟩:∃ W,W=wr:=⟨_,rfl⟩
     have hlA:(arms.length:Int)≤9223372036854775807:=by omega
     by_cases hlt:k<arms.length
     ·have hlti:(k:Int)<arms.length:=by omega
      have hk0:(0:Int)≤k:=by omega
      have hk2:(2:Int)+k≤9223372036854775807:=by omega
      obtain ⟨bL,oL,vb',vs',hLA,hRb,p0,p1,p2,p3⟩:=(HARM.out.step HSKn.out).elem (List.getElem?_eq_getElem hlt)
      obtain ⟨_,_,_,_,hcsb,hcod,_,hbi,hst⟩:=hRb.shape
      simp only [List.cons.injEq,and_true,true_and] at hcsb
      obtain ⟨rfl,rfl⟩:=hcsb
      obtain ⟨G1,q1,rfl,_,_⟩:=SlR.form hbi
      obtain ⟨G2,q2,rfl,_,_⟩:=SlR.form hst
      cases hLA
      have hdr:=armsC_drop (p:=p) (ty:=ty) (c:=ck) (t:=s.ty) (List.getElem?_eq_getElem hlt)
      generalize arms[k]=b at *
      have HE2:=Hd.mk (HE.out.trans hdr)
      have HRBK:=Hd.mk hRb
      have HCOD:=Hd.mk hcod
      have lL:bS<Wr.heap.size:=World.block_lt_of_cell? Wr ⟨bS,_,none⟩ p0
      have hb4:=HSK.out.blk TWH.out.b4 (fun t ht=>by rw [HN4.out] at ht;cases ht)
      have l4:=hb4.lt
      have e18:Wr.cell? ⟨X4,18,none⟩=some (.slice (some ⟨bS,oS,none⟩) (arms.length+1+1) s9):=hb4.cell (i:=18) (by rw [←HCE.out];exact (rfl:_=some (.slice (some ⟨bS,oS,none⟩) s.blocks.length s9:Value)).trans (by rw [HLB.out]))
      have hsl:∀ W,(Instr.slice 92 (.slice (some ⟨bS,oS,none⟩) (arms.length+1+1) s9) (some (.int .i64 2)) (some (.int .i64 (2+(k:Int)))) none).run Try.prog W= .ok (.slice (some ⟨bS,oS+8,none⟩) k (s9-2)) W:=fun W=>blkSlice_2k W bS oS _ s9 k lS3 (by omega) _ rfl
      have HSX1:=Hd.mk ((Step.refl (fun _=>False) Wr ρk).alloc (.cells #[.int .i64 b.code, .slice G1 b.bind.length q1, .slice G2 b.steps.length q2, .int .i64 b.value] 46))
      have HB12:Hd (Blk (Wr.alloc (.cells #[.int .i64 b.code, .slice G1 b.bind.length q1, .slice G2 b.steps.length q2, .int .i64 b.value] 46)) Wr.heap.size 46 [.int .i64 b.code, .slice G1 b.bind.length q1, .slice G2 b.steps.length q2, .int .i64 b.value]):=⟨Blk.new' _ _ _⟩
      have HN12:Hd (ρk Wr.heap.size=none):=⟨HSK.out.fresh HFW.out _ (Nat.le_refl _)⟩
      clear hdr hRb hbi hst hcod HE hb4
      go_wp2_with fail
      generalize Wr.alloc (.cells #[.int .i64 b.code, .slice G1 b.bind.length q1, .slice G2 b.steps.length q2, .int .i64 b.value] 46)=W1 at *
      generalize Wr.heap.size=X12 at *
      clear p0 p1 p2 p3 lL e18 l4 hsl hk2
      go_loopw [10,160] (fun vo vj wx=>∃ (j:Nat) (bv:Bool),vo= .bool bv∧vj= .int .i64 j∧j≤k∧bv=((arms.take j).all fun o=>decide (o.code≠b.code))∧Step (fun _=>False) W1 ρk wx ρk) (fun _ v _=>k-(intOf v).toNat)
      case atStart=>exact ⟨0,true,rfl,by simp,by omega,by simp,Step.refl _ _ _⟩
      case round =>
       obtain ⟨j,bv,rfl,rfl,hj,hbv,hS⟩:=hrel
       have HBV:=Hd.mk hbv
       have HS:=Hd.mk hS
       clear hbv hS
       obtain ⟨Wx,rfl⟩:∃ W,W=wr:=⟨_,rfl⟩
       have HSX:Hd (Step (fun _=>False) Wr ρk Wx ρk):=⟨HSX1.out.trans HS.out⟩
       have HB12X:=Hd.mk (HS.out.blk HB12.out (fun t ht=>by rw [HN12.out] at ht;cases ht))
       have y0:Wx.cell? ⟨X12,0,none⟩=some (.int .i64 b.code):=HB12X.out.cell (i:=0) rfl
       have l12:=HB12X.out.lt
       by_cases hltj:j<k
       ·have hltji:(j:Int)<k:=by omega
        have hj0:(0:Int)≤j:=by omega
        have hja:j<arms.length:=by omega
        obtain ⟨bL,oL,vb',vs',hLA,hRb,p0,p1,p2,p3⟩:=(HARM.out.step (HSKn.out.trans (HSX.out.mono (fun _ h=>h.elim)))).elem (List.getElem?_eq_getElem hja)
        obtain ⟨_,_,_,_,hcsb,_,_,hbi,hst⟩:=hRb.shape
        simp only [List.cons.injEq,and_true,true_and] at hcsb
        obtain ⟨rfl,rfl⟩:=hcsb
        obtain ⟨Q1,u1,rfl,_,_⟩:=SlR.form hbi
        obtain ⟨Q2,u2,rfl,_,_⟩:=SlR.form hst
        cases hLA
        have htk:(arms.take (j+1)).all (fun o=>decide (o.code≠b.code))=((arms.take j).all (fun o=>decide (o.code≠b.code)) && decide (arms[j].code≠b.code)):=by
         rw [List.take_succ_eq_append_getElem hja,List.all_append,List.all_cons,List.all_nil,Bool.and_true]
        rw [←HBV.out] at htk
        generalize arms[j]=o at *
        have lL:bS<Wx.heap.size:=World.block_lt_of_cell? Wx ⟨bS,_,none⟩ p0
        have HTK:=Hd.mk htk
        have HA1:=Hd.mk ((Step.refl (fun _=>False) Wx ρk).alloc (.cells #[.int .i64 o.code, .slice Q1 o.bind.length u1, .slice Q2 o.steps.length u2, .int .i64 o.value] 46))
        clear hRb hbi hst htk
        cases bv with
        |false =>
         go_wp2
         go_roundw
         case rel=>exact ⟨j+1,false,rfl,by go_num,by omega,by rw [HTK.out,Bool.false_and],HS.out.trans HA1.out⟩
         case measure=>simp [intOf];omega
        |true =>
         by_cases hc:o.code=b.code
         ·have w1:(o.code != b.code)=false:=by simp [hc]
          have w2:(o.code == b.code)=true:=by simp [hc]
          have w3:decide (o.code=b.code)=true:=by simp [hc]
          have HV2:Hd (false=(arms.take (j+1)).all (fun o=>decide (o.code≠b.code))):=⟨by rw [HTK.out];simp [hc]⟩
          clear hc
          go_wp2
          go_roundw
          case rel=>exact ⟨j+1,false,rfl,by go_num,by omega,HV2.out,HS.out.trans HA1.out⟩
          case measure=>simp [intOf];omega
         ·have w1:(o.code != b.code)=true:=by simp [hc]
          have w2:(o.code == b.code)=false:=by simp [hc]
          have w3:decide (o.code=b.code)=false:=by simp [hc]
          have HV2:Hd (true=(arms.take (j+1)).all (fun o=>decide (o.code≠b.code))):=⟨by rw [HTK.out];simp [hc]⟩
          clear hc
          go_wp2
          go_roundw
          case rel=>exact ⟨j+1,true,rfl,by go_num,by omega,HV2.out,HS.out.trans HA1.out⟩
          case measure=>simp [intOf];omega
       ·have hje:j=k:=by omega
        have hbv2:bv=((arms.take k).all fun o=>decide (o.code≠b.code)):=by rw [←hje];exact HBV.out
        have hco:codeOk p (arms.take k) b=(bv && decide (0≤b.code) && decide (b.code<p.exns.length)):=by rw [hbv2];rfl
        have HCO:=Hd.mk hco
        have hckx:=HP.out.ck.step HSX.out (fun _ _ h=>h)
        obtain ⟨A1,t1',A2,t2',A3,t3',k0',k1',k2',k6',_,_⟩:=HKW.out.out
        have yC1:Wx.cell? ⟨C,1,none⟩=some (.slice A2 p.exns.length t2'):=hckx.cell k1'
        have lC:=hckx.lt
        clear hje hbv2 hco hckx k0' k1' k2' k6'
        cases bv with
        |false =>
         have HRNO:Hd (r= .no):=⟨by rw [HRN3.out,HE2.out,if_neg (by rw [HCO.out];simp)]⟩
         go_wp2_with fail
         have HSc:=Hd.mk ((Step.refl (fun _=>False) Wx ρk).drew)
         refine wp_region_held_drew (S:=(fun wv=>Step (fun _=>False) Wx ρk wv ρk∧∀ a:Addr,a.block<Wx.heap.size→wv.cell? a=Wx.cell? a)) (by kernel_rfl) (keepS_of HSc.out) (fun hHeld=>?_)
         refine tkP 0 ?_
         refine tkP 1 ?_
         refine tkP 2 ?_
         refine tkU 3 ?_
         refine tkU 4 ?_
         refine tkU 5 ?_
         refine tkP 6 ?_
         refine tkP 7 ?_
         refine tkU 8 ?_
         refine tkU 9 ?_
         refine tkU 10 ?_
         refine tkU 11 ?_
         refine tkU 12 ?_
         refine tkU 13 ?_
         refine tkU 14 ?_
         refine tkU 15 ?_
         refine tkU 16 ?_
         refine tkP 17 ?_
         refine wpAnyH_done (by kernel_rfl) ?_ _
         have hrr:r= .no:=HRNO.out
         subst hrr
         go_wp2
         go_ret
         first|exact ⟨ρk,rfl,(HP.out.after (HSX.out.trans HSc.out)).no rfl⟩|exact ⟨rfl,ρk,(HP.out.after (HSX.out.trans HSc.out)).no rfl⟩
        |true =>
         by_cases hc0:b.code<0
         ·have HRNO:Hd (r= .no):=⟨by rw [HRN3.out,HE2.out,if_neg (by rw [HCO.out];simp;omega)]⟩
          have w1:decide (b.code<0)=true:=by simp;omega
          go_wp2_with fail
          have HSc:=Hd.mk ((Step.refl (fun _=>False) Wx ρk).drew)
          refine wp_region_held_drew (S:=(fun wv=>Step (fun _=>False) Wx ρk wv ρk∧∀ a:Addr,a.block<Wx.heap.size→wv.cell? a=Wx.cell? a)) (by kernel_rfl) (keepS_of HSc.out) (fun hHeld=>?_)
          refine tkP 0 ?_
          refine tkP 1 ?_
          refine tkP 2 ?_
          refine tkP 3 ?_
          refine tkP 4 ?_
          refine tkP 5 ?_
          refine tkP 6 ?_
          refine tkP 7 ?_
          refine tkU 8 ?_
          refine tkU 9 ?_
          refine tkU 10 ?_
          refine tkU 11 ?_
          refine tkU 12 ?_
          refine tkU 13 ?_
          refine tkU 14 ?_
          refine tkU 15 ?_
          refine tkU 16 ?_
          refine tkP 17 ?_
          refine wpAnyH_done (by kernel_rfl) ?_ _
          have hrr:r= .no:=HRNO.out
          subst hrr
          go_wp2
          go_ret
          first|exact ⟨ρk,rfl,(HP.out.after (HSX.out.trans HSc.out)).no rfl⟩|exact ⟨rfl,ρk,(HP.out.after (HSX.out.trans HSc.out)).no rfl⟩
         ·have w1:decide (b.code<0)=false:=by simp;omega
          by_cases hc1:(p.exns.length:Int)≤b.code
          ·have HRNO:Hd (r= .no):=⟨by rw [HRN3.out,HE2.out,if_neg (by rw [HCO.out];simp;omega)]⟩
           have w2:decide ((p.exns.length:Int)≤b.code)=true:=by simp;omega
           have w3:decide (b.code ≥ (p.exns.length:Int))=true:=by simp;omega
           go_wp2_with fail
           have HSc:=Hd.mk ((Step.refl (fun _=>False) Wx ρk).drew)
           refine wp_region_held_drew (S:=(fun wv=>Step (fun _=>False) Wx ρk wv ρk∧∀ a:Addr,a.block<Wx.heap.size→wv.cell? a=Wx.cell? a)) (by kernel_rfl) (keepS_of HSc.out) (fun hHeld=>?_)
           refine tkP 0 ?_
           refine tkP 1 ?_
           refine tkP 2 ?_
           refine tkP 3 ?_
           refine tkP 4 ?_
           refine tkP 5 ?_
           refine tkP 6 ?_
           refine tkP 7 ?_
           refine tkP 8 ?_
           refine tkP 9 ?_
           refine tkP 10 ?_
           refine tkP 11 ?_
           refine tkP 12 ?_
           refine tkP 13 ?_
           refine tkP 14 ?_
           refine tkP 15 ?_
           refine tkP 16 ?_
           refine tkP 17 ?_
           refine wpAnyH_done (by kernel_rfl) ?_ _
           have hrr:r= .no:=HRNO.out
           subst hrr
           go_wp2
           go_ret
           first|exact ⟨ρk,rfl,(HP.out.after (HSX.out.trans HSc.out)).no rfl⟩|exact ⟨rfl,ρk,(HP.out.after (HSX.out.trans HSc.out)).no rfl⟩
          ·have w2:decide ((p.exns.length:Int)≤b.code)=false:=by simp;omega
           have w3:decide (b.code ≥ (p.exns.length:Int))=false:=by simp;omega
           have hcod:codeOk p (arms.take k) b=true:=by rw [HCO.out];simp;omega
           clear hc0 hc1
           go_wp2_with fail
           have HSc:=Hd.mk ((Step.refl (fun _=>False) Wx ρk).drew)
           refine wp_region_held_drew (S:=(fun wv=>Step (fun _=>False) Wx ρk wv ρk∧∀ a:Addr,a.block<Wx.heap.size→wv.cell? a=Wx.cell? a)) (by kernel_rfl) (keepS_of HSc.out) (fun hHeld=>?_)
           refine tkP 0 ?_
           refine tkP 1 ?_
           refine tkP 2 ?_
           refine tkP 3 ?_
           refine tkP 4 ?_
           refine tkP 5 ?_
           refine tkP 6 ?_
           refine tkP 7 ?_
           refine tkP 8 ?_
           refine tkP 9 ?_
           refine tkP 10 ?_
           refine tkP 11 ?_
           refine tkP 12 ?_
           refine tkP 13 ?_
           refine tkP 14 ?_
           refine tkP 15 ?_
           refine tkP 16 ?_
           refine tkP 17 ?_
           refine wpAnyH_done (by kernel_rfl) ?_ _
           have hrb:=hcod
           have HEB:Hd (armsC p ty c1 s.ty [] arms=(blockC p ty ck [intT] b.code b).andThen fun r=>if sameL [r.2] [s.ty] then armsC p ty r.1 s.ty (arms.take (k+1)) (arms.drop (k+1)) else .no):=⟨by rw [HE2.out,if_pos hcod]⟩
           clear hrb hcod
           have hS4:=HSX.out.trans HSc.out
           have HS4:=Hd.mk hS4
           have hP4:=HP.out.after hS4
           have HP4:=Hd.mk hP4
           have hW4:Step CkT W ρ Wx.drew ρk:=HSK.out.trans (hS4.mono (fun _ h=>h.elim))
           have HW4:=Hd.mk hW4
           have hb12:=HB12X.out.drew
           have hb4:=hW4.blk TWH.out.b4 (fun t ht=>by rw [HN4.out] at ht;cases ht)
           have hb7:=hW4.blk TWH.out.b7 (fun t ht=>by rw [HN7.out] at ht;cases ht)
           have HS48:=HSc
           clear HSc y0 l12 yC1 lC
           generalize Wx.drew=W8 at *
           have y0:W8.cell? ⟨X12,0,none⟩=some (.int .i64 b.code):=hb12.cell (i:=0) rfl
           have y1:W8.cell? ⟨X12,1,none⟩=some (.slice G1 b.bind.length q1):=hb12.cell (i:=1) rfl
           have y2:W8.cell? ⟨X12,2,none⟩=some (.slice G2 b.steps.length q2):=hb12.cell (i:=2) rfl
           have y3:W8.cell? ⟨X12,3,none⟩=some (.int .i64 b.value):=hb12.cell (i:=3) rfl
           have n0:W8.cell? ⟨X7,0,none⟩=some (.int .i64 0):=hb7.cell (i:=0) rfl
           have n1:W8.cell? ⟨X7,1,none⟩=some (.int .i64 0):=hb7.cell (i:=1) rfl
           have n2:W8.cell? ⟨X7,2,none⟩=some (.string ⟨#[]⟩):=hb7.cell (i:=2) rfl
           have n3:W8.cell? ⟨X7,3,none⟩=some (.slice none 0 0):=hb7.cell (i:=3) rfl
           have n4:W8.cell? ⟨X7,4,none⟩=some (.int .i64 0):=hb7.cell (i:=4) rfl
           have n5:W8.cell? ⟨X7,5,none⟩=some (.slice none 0 0):=hb7.cell (i:=5) rfl
           have n6:W8.cell? ⟨X7,6,none⟩=some (.slice none 0 0):=hb7.cell (i:=6) rfl
           have l12:=hb12.lt
           have l7:=hb7.lt
           have hs9:=(Step.refl (fun _=>False) W8 ρk).alloc (.cells #[.int .i64 0, .int .i64 0, .string ⟨#[]⟩, .slice none 0 0, .int .i64 0, .slice none 0 0, .slice none 0 0] 43)
           have hn9:ρk W8.heap.size=none:=hW4.fresh HFW.out _ (Nat.le_refl _)
           have hb9:Blk (W8.alloc (.cells #[.int .i64 0, .int .i64 0, .string ⟨#[]⟩, .slice none 0 0, .int .i64 0, .slice none 0 0, .slice none 0 0] 43)) W8.heap.size 43 (tyCells intT (.slice none 0 0) (.slice none 0 0) (.slice none 0 0)):=Blk.new' _ _ _
           have ht9:=TysR.one (t:=intT) hb9 hn9 (kindNil 0 (⟨by decide,by decide⟩:I64 0) _ ρk 0)
           have hcall:=HBC.out (W8.alloc (.cells #[.int .i64 0, .int .i64 0, .string ⟨#[]⟩, .slice none 0 0, .int .i64 0, .slice none 0 0, .slice none 0 0] 43)) ρk C hd mb ck b G1 G2 q1 q2 [intT] (some ⟨W8.heap.size,0,none⟩) 1 1 b.code (hP4.ck.step hs9 (fun _ _ h=>h)) (HKW.out.step (hW4.trans (hs9.mono (fun _ h=>h.elim)))) (BkR.step (HSX.out.trans (HS48.out.trans hs9)) _ HRBK.out) ht9 (fun t ht=>by rw [List.mem_singleton] at ht;subst ht;rfl) ((hW4.trans (hs9.mono (fun _ h=>h.elim):Step CkT _ _ _ _)).fresh HFW.out) HP.out.only HCOD.out
           obtain ⟨rb,hrb⟩:∃ z,blockC p ty ck [intT] b.code b=z:=⟨_,rfl⟩
           rw [hrb] at hcall
           have HRBB:=Hd.mk hrb
           have HCALL:=Hd.mk hcall
           have HS89:=Hd.mk hs9
           clear hcall hrb hs9 hn9 hb9 ht9 hb12 hb4 hb7 hS4 hP4 hW4
           go_wp2_with fail
           refine HCALL.out.mono ?_
           rintro e W5' ⟨ρ5',tm,M0,M1,M2,m0,m1,m2,rfl,⟨nm,hTm⟩,hokm,hPm⟩
           have HPM:=Hd.mk ((HP4.out.after HS89.out).andThen hPm)
           have HWM:=Hd.mk (HW4.out.trans ((HS89.out.mono (fun _ h=>h.elim):Step CkT _ _ _ _).trans hPm.step))
           have HTM:=Hd.mk hTm
           have HPMs:=Hd.mk hPm.step
           have HOKM:=Hd.mk hokm
           clear hTm hokm hPm HCALL y0 y1 y2 y3 n0 n1 n2 n3 n4 n5 n6 l12 l7
           cases rb with
           |no =>
            have hrr:r= .no:=by rw [HRN3.out,HEB.out,HRBB.out];rfl
            subst hrr
            simp only [Rs.isOk]
            go_wp2
            go_ret
            first|exact ⟨ρ5',rfl,HPM.out.after ((Step.refl (fun _=>False) _ ρ5').alloc _)⟩|exact ⟨rfl,ρ5',HPM.out.after ((Step.refl (fun _=>False) _ ρ5').alloc _)⟩
           |big =>
            have hrr:r= .big:=by rw [HRN3.out,HEB.out,HRBB.out];rfl
            subst hrr
            simp only [Rs.isOk]
            go_wp2
            go_ret
            first|exact ⟨ρ5',rfl,HPM.out.after ((Step.refl (fun _=>False) _ ρ5').alloc _)⟩|exact ⟨rfl,ρ5',HPM.out.after ((Step.refl (fun _=>False) _ ρ5').alloc _)⟩
           |ok r2 =>
            obtain ⟨e2,hf2⟩:=HOKM.out r2 rfl
            obtain ⟨z,hz⟩:∃ z,sameL [tm] [s.ty]=z:=⟨_,rfl⟩
            have HZ:=Hd.mk hz
            have HEC:Hd (r=if z then armsC p ty r2.1 s.ty (arms.take (k+1)) (arms.drop (k+1)) else .no):=⟨by
             rw [HRN3.out,HEB.out,HRBB.out, ←hz,e2]
             rfl⟩
            have HPM2:Hd (CkP (fun t=>formed1 p.datas ty t=true) w ρ W5' ρ5' C hd mb c (.ok r2.1)):=HPM
            simp only [Rs.isOk]
            clear e2 hf2 hz HPM
            have hb14:Blk (W5'.alloc (.cells #[.int .i64 tm.kind, .int .i64 tm.n, .string tm.name, .slice M0 tm.args.length m0, .int .i64 tm.region, .slice M1 tm.eff.regs.length m1, .slice M2 tm.eff.vars.length m2] 43)) W5'.heap.size 43 (tyCells tm (.slice M0 tm.args.length m0) (.slice M1 tm.eff.regs.length m1) (.slice M2 tm.eff.vars.length m2)):=Blk.new' _ _ _
            have hs14:=(Step.refl (fun _=>False) W5' ρ5').alloc (.cells #[.int .i64 tm.kind, .int .i64 tm.n, .string tm.name, .slice M0 tm.args.length m0, .int .i64 tm.region, .slice M1 tm.eff.regs.length m1, .slice M2 tm.eff.vars.length m2] 43)
            have hn14:ρ5' W5'.heap.size=none:=HWM.out.fresh HFW.out _ (Nat.le_refl _)
            have hb4:=HWM.out.blk TWH.out.b4 (fun t ht=>by rw [HN4.out] at ht;cases ht)
            have l4:=hb4.lt
            have e2:W5'.cell? ⟨X4,2,none⟩=some (.int .i64 s.ty.kind):=hb4.cell (i:=2) (by rw [←HCE.out];exact rfl)
            have e3:W5'.cell? ⟨X4,3,none⟩=some (.int .i64 s.ty.n):=hb4.cell (i:=3) (by rw [←HCE.out];exact rfl)
            have e4:W5'.cell? ⟨X4,4,none⟩=some (.string s.ty.name):=hb4.cell (i:=4) (by rw [←HCE.out];exact rfl)
            have e5:W5'.cell? ⟨X4,5,none⟩=some (.slice S0 s.ty.args.length s0):=hb4.cell (i:=5) (by rw [←HCE.out];exact rfl)
            have e6:W5'.cell? ⟨X4,6,none⟩=some (.int .i64 s.ty.region):=hb4.cell (i:=6) (by rw [←HCE.out];exact rfl)
            have e7:W5'.cell? ⟨X4,7,none⟩=some (.slice S1 s.ty.eff.regs.length s1):=hb4.cell (i:=7) (by rw [←HCE.out];exact rfl)
            have e8:W5'.cell? ⟨X4,8,none⟩=some (.slice S2 s.ty.eff.vars.length s2):=hb4.cell (i:=8) (by rw [←HCE.out];exact rfl)
            have HB14:=Hd.mk hb14
            have HS14:=Hd.mk hs14
            have HN14:=Hd.mk hn14
            have HZ15:=Hd.mk (size_alloc W5' (.cells #[.int .i64 tm.kind, .int .i64 tm.n, .string tm.name, .slice M0 tm.args.length m0, .int .i64 tm.region, .slice M1 tm.eff.regs.length m1, .slice M2 tm.eff.vars.length m2] 43))
            clear hb14 hs14 hn14 hb4
            go_wp2_with fail
            generalize W5'.alloc (.cells #[.int .i64 tm.kind, .int .i64 tm.n, .string tm.name, .slice M0 tm.args.length m0, .int .i64 tm.region, .slice M1 tm.eff.regs.length m1, .slice M2 tm.eff.vars.length m2] 43)=W15 at *
            generalize W5'.heap.size=X15 at *
            have HP15:=Hd.mk (HPM2.out.after HS14.out)
            have HW15:=Hd.mk (HWM.out.trans (HS14.out.mono (fun _ h=>h.elim):Step CkT _ _ _ _))
            have hfr5:=HW15.out.fresh HFW.out
            have hc6:=Blk.new' W15 #[.int .i64 tm.kind, .int .i64 tm.n, .string tm.name, .slice M0 tm.args.length m0, .int .i64 tm.region, .slice M1 tm.eff.regs.length m1, .slice M2 tm.eff.vars.length m2] 43
            have hs6:=(Step.refl (fun _=>False) W15 ρ5').alloc (.cells #[.int .i64 tm.kind, .int .i64 tm.n, .string tm.name, .slice M0 tm.args.length m0, .int .i64 tm.region, .slice M1 tm.eff.regs.length m1, .slice M2 tm.eff.vars.length m2] 43)
            have he6:=size_alloc W15 (.cells #[.int .i64 tm.kind, .int .i64 tm.n, .string tm.name, .slice M0 tm.args.length m0, .int .i64 tm.region, .slice M1 tm.eff.regs.length m1, .slice M2 tm.eff.vars.length m2] 43)
            generalize W15.alloc (.cells #[.int .i64 tm.kind, .int .i64 tm.n, .string tm.name, .slice M0 tm.args.length m0, .int .i64 tm.region, .slice M1 tm.eff.regs.length m1, .slice M2 tm.eff.vars.length m2] 43)=W16 at *
            have hc7:=Blk.new' W16 #[.int .i64 s.ty.kind, .int .i64 s.ty.n, .string s.ty.name, .slice S0 s.ty.args.length s0, .int .i64 s.ty.region, .slice S1 s.ty.eff.regs.length s1, .slice S2 s.ty.eff.vars.length s2] 43
            have hs7:=(Step.refl (fun _=>False) W16 ρ5').alloc (.cells #[.int .i64 s.ty.kind, .int .i64 s.ty.n, .string s.ty.name, .slice S0 s.ty.args.length s0, .int .i64 s.ty.region, .slice S1 s.ty.eff.regs.length s1, .slice S2 s.ty.eff.vars.length s2] 43)
            rw [he6] at hc7
            generalize W16.alloc (.cells #[.int .i64 s.ty.kind, .int .i64 s.ty.n, .string s.ty.name, .slice S0 s.ty.args.length s0, .int .i64 s.ty.region, .slice S1 s.ty.eff.regs.length s1, .slice S2 s.ty.eff.vars.length s2] 43)=W17 at *
            have hT0:=TyR.step (HW15.out.trans ((hs6.trans hs7).mono (fun _ h=>h.elim):Step CkT _ _ _ _)) _ HVW.out.ty
            have o1:=TysR.one (t:=tm) (hs7.blk hc6 (fun _ _ h=>h)) (hfr5 _ (Nat.le_refl _)) (TyR.step (HS14.out.trans (hs6.trans hs7)) _ HTM.out)
            have o2:=TysR.one (t:=s.ty) hc7 (hfr5 _ (by omega)) hT0
            have hcall:=same_any nm N W17 ρ5' [tm] [s.ty] _ _ _ _ o1 o2
            rw [HZ.out] at hcall
            rw [HZ15.out] at hcall
            have HCALL:=Hd.mk hcall
            have HS57:=Hd.mk (hs6.trans hs7)
            clear hfr5 hc6 hs6 he6 hc7 hs7 hT0 o1 o2 hcall
            refine HCALL.out.mono ?_
            rintro e W18 ⟨rfl,hd8⟩
            have HP18:=Hd.mk (HP15.out.after (HS57.out.trans (hd8.step ρ5')))
            have HW18:=Hd.mk (HW15.out.trans ((HS57.out.trans (hd8.step ρ5')).mono (fun _ h=>h.elim):Step CkT _ _ _ _))
            have HWn8:=Hd.mk (((HSKn.out.trans ((HSX.out.trans HS48.out).mono (fun _ h=>h.elim))).trans ((HS89.out.mono (fun _ h=>h.elim):Step CkT _ _ _ _).trans HPMs.out)).trans ((HS14.out.trans (HS57.out.trans (hd8.step ρ5'))).mono (fun _ h=>h.elim):Step CkT _ _ _ _))
            clear hd8 HCALL
            cases z with
            |false =>
             have hrr:r= .no:=HEC.out
             subst hrr
             go_wp2
             go_ret
             first|exact ⟨ρ5',rfl,HP18.out.no rfl⟩|exact ⟨rfl,ρ5',HP18.out.no rfl⟩
            |true =>
             have HE3:Hd (armsC p ty c1 s.ty [] arms=armsC p ty r2.1 s.ty (arms.take (k+1)) (arms.drop (k+1))):=⟨by rw [←HRN3.out];exact HEC.out⟩
             go_wp2
             go_roundw
             case rel=>exact ⟨k+1,r2.1,ρ5',rfl,by go_num,by omega,HE3.out,HP18.out,HW18.out,HWn8.out⟩
             case measure=>simp [intOf];omega
     ·have hke:k=arms.length:=by omega
      have hE:=HE.out
      rw [hke,List.drop_length,armsC] at hE
      have hrr:r= .ok ck:=by rw [HRN3.out,hE]
      subst hrr
      clear hE hke
      go_wp2
      go_ret
      first|exact ⟨ρk,rfl,HP.out⟩|exact ⟨rfl,ρk,HP.out⟩
end
end
end Go.Proofs.Ytadffbgbndibpaa
