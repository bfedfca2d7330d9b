/- RnF, RnG, RnC, RnD, RnH: lemmas and walks of the claim. -/
import Derived.Test.YtadffbgbndibpaaKHeapB
import Derived.Test.YtadffbgbndibpaaKRnW
import Derived.Shelf.Slices.Clone
import Derived.StillTailTactics
set_option linter.unusedSectionVars false
set_option linter.unusedVariables false
set_option linter.unusedSimpArgs false
set_option maxHeartbeats 16000000
set_option maxRecDepth 100000
namespace Go.Proofs.Ytadffbgbndibpaa
section
open Go Go.RowKit
theorem infoV:(Try.prog.info? 64).map (fun i=>(i.zero,i.size,i.bytes))=some (some (.agg #[.int .i64 0, .pointer none]),2,16):=by kernel_rfl
theorem madeV (n:Nat):(madeCells #[.int .i64 0, .pointer none] (n*2)).toList=flatV [] (List.replicate n nilV):=by
 apply List.ext_getElem?
 intro i
 by_cases hi:i<n*2
 ·have h1:(madeCells #[.int .i64 0, .pointer none] (n*2)).toList[i]? =some ((#[Value.int .i64 0, .pointer none])[i % 2]!):=by
   rw [List.getElem?_eq_getElem (by simpa [madeCells] using hi)]
   simp [madeCells]
  rw [h1]
  have h2:=flatV_get [] (l:=List.replicate n nilV) (i:=i / 2) (v:=nilV) (by rw [List.getElem?_replicate,if_pos (by omega)])
  rcases Nat.mod_two_eq_zero_or_one i with h|h
  ·rw [h,show i=i / 2*2 by omega,h2.1];rfl
  ·rw [h,show i=i / 2*2+1 by omega,h2.2];rfl
 ·rw [List.getElem?_eq_none (by simpa [madeCells] using hi),List.getElem?_eq_none (by rw [flatV_len,List.length_replicate];omega)]
theorem makeV (W:World) (l n:Nat) (hl:l≤n) (hn:n≤1100000):(Instr.makeSlice 61 (.int .i64 l) (.int .i64 n)).run Try.prog W= .ok (.slice (some ⟨W.heap.size,0,none⟩) l n) (W.alloc (.cells (flatV [] (List.replicate n nilV)).toArray 64)):=by
 obtain ⟨i,hi,hzz⟩:=Option.map_eq_some_iff.1 infoV
 simp only [Prod.mk.injEq] at hzz
 obtain ⟨hz0,hz1,hz2⟩:=hzz
 have h:=run_make (P:=Try.prog) (w:=W) 61 64 i _ Try.underlying61 hi hz0 .i64 .i64 (l:Int) (n:Int) (by omega) (by omega) (by rw [hz2];omega) (by omega)
 rw [hz1] at h
 simp only [Int.toNat_natCast] at h
 have e:madeCells (Value.agg #[.int .i64 0, .pointer none]).cells (n*2)=(flatV [] (List.replicate n nilV)).toArray:=by
  rw [←madeV]
  simp [Value.cells]
 rw [e] at h
 exact h
theorem flatV_one (B:List Nat) (l:List Vl):∀ u,u ∈ flatV B l→u.oneCell'=true:=fun u hu=>by
 unfold flatV at hu
 obtain ⟨v,_,hv⟩:=List.mem_flatMap.1 hu
 unfold valV at hv
 simp only [List.mem_cons,List.not_mem_nil,or_false] at hv
 rcases hv with rfl|rfl <;> rfl
theorem clone_any (w:World) (ρ:Ghost) (t:Tag) (g n c:Nat) (l:List Vl) (B:List Nat) (hO:OwnSl w ρ t 64 2 (.slice (some ⟨g,0,none⟩) n c) n (flatV B l)) (hln:l.length=n) (hn0:0<n) (hl:n≤1100000) (hfr:Fresh w ρ) (hG:OkG ρ) :
 Calls Try.prog 44 #[.slice (some ⟨g,0,none⟩) n c] w fun e w'=>∃ X cp,e= .returned (.slice (some ⟨X,0,none⟩) n cp)∧w.heap.size≤X∧∀ t',OwnSl w' (ρ.put X t') t' 64 2 (.slice (some ⟨X,0,none⟩) n cp) n (flatV B l)∧Step (fun _=>False) w ρ w' (ρ.put X t'):=by
 have hsrc:∀ j u,(flatV B l)[j]? =some u→w.cell? ((⟨g,0,none⟩:Addr).add j)=some u:=fun j u hj=>by
  have hlt:=(List.getElem?_eq_some_iff.1 hj).1
  rw [flatV_len,hln] at hlt
  rw [add_plainS]
  obtain ⟨g',c',hv,_,_,_,hc,_,_⟩:=hO.some (by omega)
  cases hv
  rw [hc j hlt]
  exact hj
 have hgl:g<w.heap.size:=by
  obtain ⟨g',c',hv,_,_,_,_,_,hg⟩:=hO.some hn0
  cases hv
  exact hg
 have HSRC:Hd (∀ j u,(flatV B l)[j]? =some u→(w.alloc (.cells #[] 64)).cell? ((⟨g,0,none⟩:Addr).add j)=some u):=⟨fun j u hj=>by
  rw [World.cell?_alloc_lt w _ _ (by rw [add_plainS];exact hgl)]
  exact hsrc j u hj⟩
 have HW0:=Hd.mk (OwnSl.made w ρ (49,0) 64 2 0 [] rfl (Nat.zero_le _))
 have HS0:=Hd.mk ((Step.refl (· =((49,0):Tag)) w ρ).alloc_tag (.cells #[] 64) (49,0))
 have HFR:=Hd.mk hfr
 have HG:=Hd.mk hG
 have HLN:=Hd.mk hln
 have hb:n*16≤140737488355328:=by omega
 have hm:n≤maxLen:=by unfold maxLen;omega
 have HBM:=Hd.mk (And.intro hb hm)
 have HFL:Hd ((flatV B l).length=n*2):=⟨by rw [flatV_len,hln]⟩
 have q61:∀ (w:World) (a:Option Addr) (n c n' c':Nat),(binOp .eql 61 (.slice a n c) (.slice none n' c')).run Try.prog w= .ok (.bool a.isNone) w:=fun w a n c n' c'=>Lib.run_eql_slice_nil w _ _ a n c n' c' Try.underlying61
 clear hsrc hgl hO hfr hG hln hl hb hm
 go_enter Try.func44,Try.ntmps44
 go_wp2_with (at_builtin;refine wpList_appendS rfl _ _ _ rfl 64 _ 2 16 Try.underlying61 infoV rfl (by decide) (ρ.put w.heap.size (49,0)) (49,0) (.slice (some ⟨w.heap.size,0,none⟩) 0 0) 0 [] rfl HW0.out ⟨g,0,none⟩ n c (flatV B l) rfl HFL.out HSRC.out (flatV_one B l) (by rw [Nat.zero_add];exact HBM.out.2) (by rw [Nat.zero_add];exact HBM.out.1) ?z)
 case z =>
 intro v' w1 ρ1 hO1 hS1
 obtain ⟨X,cp,rfl,_⟩:=hO1.some hn0
 have HO1:=Hd.mk hO1
 have HS1:=Hd.mk (HS0.out.trans hS1)
 clear hO1 hS1
 go_wp2
 go_ret
 have hnew:=HO1.out.newer HS1.out (HG.out.no (by decide))
 exact ⟨X,cp,rfl,hnew,fun t'=>HO1.out.adopt HS1.out (fun b t h e=>HG.out.no (t:=(49,0)) (by decide) b (by rw [h,e])) HFR.out hnew t'⟩
end
section
open Go Go.RowKit
theorem valSize (w:World):(sizeOf (Try.prog.elem 61)).run Try.prog w= .ok 2 w:=by kernel_rfl
theorem valSize2:(Try.prog.info? 64).map (·.size)=some 2:=by kernel_rfl
theorem valSlice_lo (w:World) (b n m:Nat) (hm:m<n):(Instr.slice 61 (.slice (some ⟨b,0,none⟩) n n) (some (.int .i64 m)) none none).run Try.prog w= .ok (.slice (some ⟨b,m*2,none⟩) (n-m) (n-m)) w:=by
 rw [run_slice_l w 61 _ n n (by kernel_rfl) .i64 (m:Int) (by omega) (by omega),valSize]
 simp only [Result.andThen_ok,sliced,Option.map_some,add_plainS,Int.toNat_natCast]
 rw [if_neg (by omega)]
theorem valSlice_hi (w:World) (b n m c:Nat) (hm:m≤c):(Instr.slice 61 (.slice (some ⟨b,0,none⟩) n c) none (some (.int .i64 m)) none).run Try.prog w= .ok (.slice (some ⟨b,0,none⟩) m c) w:=by
 rw [run_slice_h w 61 _ n c (by kernel_rfl) .i64 (m:Int) (by omega) (by omega),valSize]
 simp only [Result.andThen_ok,sliced,Option.map_some,add_plainS,Int.toNat_natCast,Nat.zero_mul,ite_self,Nat.sub_zero]
theorem rep_take (B:List Nat) (v:Vl) (n m:Nat) (h:m≤n):(flatV B (List.replicate n v)).take (m*2)=flatV B (List.replicate m v):=by
 rw [show n=m+(n-m) by omega, ←List.replicate_append_replicate,flatV_append,List.take_append_of_le_length (by rw [flatV_len,List.length_replicate];omega),List.take_of_length_le (by rw [flatV_len,List.length_replicate];omega)]
theorem rep_splice {B:List Nat} {v:Vl} {L:List Value} {n m q:Nat} (hL:L.length=n*2) (hm:L.take (m*2)=flatV B (List.replicate m v)) (hq:m+q≤n):(splice L (m*2) (flatV B (List.replicate q v))).take ((m+q)*2)=flatV B (List.replicate (m+q) v):=by
 have hl:(flatV B (List.replicate q v)).length=q*2:=by rw [flatV_len,List.length_replicate]
 unfold splice
 rw [hm, ←flatV_append,List.replicate_append_replicate,List.take_append_of_le_length (by rw [flatV_len,List.length_replicate];omega),List.take_of_length_le (by rw [flatV_len,List.length_replicate];omega)]
theorem repeat_any (w:World) (ρ:Ghost) (b o c n:Nat) (v:Vl) (B:List Nat) (hn:n≤4096) (h0:w.cell? ⟨b,o,none⟩=some (.int .i64 v.word)) (h1:w.cell? ⟨b,o+1,none⟩=some (.pointer (ptrV B v))) (hb:b<w.heap.size) (hfr:Fresh w ρ) (hG:OkG ρ) :
 Calls Try.prog 57 #[.slice (some ⟨b,o,none⟩) 1 c, .int .i64 n] w fun e w'=>∃ X,e= .returned (.slice (some ⟨X,0,none⟩) n n)∧w.heap.size≤X∧∀ t',OwnSl w' (ρ.put X t') t' 64 2 (.slice (some ⟨X,0,none⟩) n n) n (flatV B (List.replicate n v))∧Step (fun _=>False) w ρ w' (ρ.put X t'):=by
 have HFR:=Hd.mk hfr
 have HG:=Hd.mk hG
 have HC:Hd (∀ j u,(flatV B [v])[j]? =some u→w.cell? ⟨b,o+j,none⟩=some u):=⟨fun j u hj=>by
  match j,hj with
  |0,hj=>cases hj;exact h0
  |1,hj=>cases hj;exact h1
  |j+2,hj=>simp [flatV,valV] at hj⟩
 have hmk:=makeV w n n (Nat.le_refl _) (by omega)
 have ew:IntKind.u64.wrap (n:Int)=(n:Int):=by rw [IntKind.wrap_u64];omega
 have HBL:=Hd.mk (Blk.new w (flatV [] (List.replicate n nilV)) 64)
 have HS1:=Hd.mk ((Step.refl (· =((49,0):Tag)) w ρ).alloc_tag (.cells (flatV [] (List.replicate n nilV)).toArray 64) (49,0))
 have hn0:(0:Int)≤n:=by omega
 have hn1:(n:Int)≤4096:=by omega
 have HN:=Hd.mk hn
 have HLB:=Hd.mk hb
 have H61:=Hd.mk (fun w=>mul_one_any n hn w)
 clear h0 h1 hfr hG hn hb
 go_enter Try.func57,Try.ntmps57
 go_wp2_with fail
 refine (H61.out _).mono ?_
 rintro e w' ⟨rfl,rfl⟩
 have HX:Hd (ρ.put w.heap.size (49,0) w.heap.size=some (49,0)):=⟨Ghost.put_same _ _ _⟩
 have HLW:Hd (w.heap.size≤w.heap.size):=⟨Nat.le_refl _⟩
 have HCW:Hd (∀ j u,(flatV B [v])[j]? =some u→(w.alloc (.cells (flatV [] (List.replicate n nilV)).toArray 64)).cell? ⟨b,o+j,none⟩=some u):=⟨fun j u hj=>by
  rw [World.cell?_alloc_lt w _ _ HLB.out]
  exact HC.out j u hj⟩
 have hmin:Nat.min 1 n≤1∧Nat.min 1 n≤n∧(0<n→Nat.min 1 n=1):=by
  refine ⟨Nat.min_le_left _ _,Nat.min_le_right _ _,fun h=>?_⟩
  show min 1 n=1
  omega
 have HQ:=Hd.mk hmin
 have HLL:Hd ((flatV [] (List.replicate n nilV)).length=n*2):=⟨by rw [flatV_len,List.length_replicate]⟩
 clear hmin
 go_wp2_with (refine wpList_copyB rfl _ _ _ _ rfl 64 2 Try.underlying61 valSize2 w.heap.size 0 n n 64 (flatV [] (List.replicate n nilV)) rfl HBL.out (some ⟨b,o,none⟩) 1 c rfl (flatV B (List.replicate (Nat.min 1 n) v)) (by rw [flatV_len,List.length_replicate]) (.inr ⟨_,rfl,?c1⟩) (by rw [flatV_len,List.length_replicate,HLL.out];have:=HQ.out;omega) (flatV_one _ _) (ρ.put w.heap.size (49,0)) (49,0) HX.out ?c2)
 case c1 =>
  intro j u hj
  rw [add_plainO]
  refine HCW.out j u ?_
  have:=HQ.out
  rcases Nat.eq_zero_or_pos n with h|h
  ·rw [show Nat.min 1 n=0 by omega] at hj;simp [flatV] at hj
  ·rw [this.2.2 h] at hj;exact hj
 case c2 =>
  intro W2 hB2 hS2 _
  have hq0:Nat.min 1 n=Nat.min 1 n:=rfl
  generalize Nat.min 1 n=q0 at hB2 HQ ⊢
  generalize hX:w.heap.size=X at *
  generalize w.alloc (.cells (flatV [] (List.replicate n nilV)).toArray 64)=W1 at *
  have HX0:=Hd.mk hX
  generalize ρ.put X (49,0)=ρ1 at *
  generalize flatV [] (List.replicate n nilV)=L0 at *
  have HB2:Hd (∃ L,Blk W2 X 64 L∧L.length=n*2∧L.take (q0*2)=flatV B (List.replicate q0 v)):=⟨_,hB2,by rw [splice_length (by rw [flatV_len,List.length_replicate,HLL.out];have:=HQ.out;omega)];exact HLL.out,by
   have h:=rep_splice (B:=B) (v:=v) (L:=L0) (n:=n) (m:=0) (q:=q0) HLL.out rfl (by have:=HQ.out;omega)
   rw [Nat.zero_add,Nat.zero_mul] at h
   exact h⟩
  have HS2:=Hd.mk (HS1.out.trans hS2)
  clear hB2 hS2 HS1 HBL HCW HC HLB hX hq0 hmk
  go_wp2_with fail
  go_loopw [8] (fun vm wr=>∃ m:Nat,vm= .int .i64 m∧m≤n∧(0<n→0<m)∧(∃ L,Blk wr X 64 L∧L.length=n*2∧L.take (m*2)=flatV B (List.replicate m v))∧Step (· =((49,0):Tag)) w ρ wr ρ1) (fun v _=>n-(intOf v).toNat)
  case atStart =>
   have h:=HQ.out
   exact ⟨q0,rfl,by omega,by omega,HB2.out,HS2.out⟩
  case round =>
   obtain ⟨m,rfl,hm,hm0,hBB,hS⟩:=hrel
   have HBB:=Hd.mk hBB
   have HS:=Hd.mk hS
   have HM0:=Hd.mk hm0
   clear hBB hS hm0
   by_cases hlt:m<n
   ·have hlti:(m:Int)<n:=by omega
    have hmz:(0:Int)≤m:=by omega
    have hsa:∀ W,(Instr.slice 61 (.slice (some ⟨X,0,none⟩) n n) (some (.int .i64 m)) none none).run Try.prog W= .ok (.slice (some ⟨X,m*2,none⟩) (n-m) (n-m)) W:=fun W=>valSlice_lo W X n m hlt
    have hsb:∀ W,(Instr.slice 61 (.slice (some ⟨X,0,none⟩) n n) none (some (.int .i64 m)) none).run Try.prog W= .ok (.slice (some ⟨X,0,none⟩) m n) W:=fun W=>valSlice_hi W X n m n hm
    obtain ⟨L,hB,hL,hT⟩:=HBB.out
    have HB:=Hd.mk hB
    have HL:=Hd.mk hL
    have HT:=Hd.mk hT
    have HM:=Hd.mk (And.intro hm hlt)
    have HQ2:Hd (Nat.min m (n-m)≤m∧Nat.min m (n-m)≤n-m∧(0<m→0<Nat.min m (n-m))):=⟨⟨Nat.min_le_left _ _,Nat.min_le_right _ _,fun h=>by show 0<min m (n-m);omega⟩⟩
    clear hB hL hT
    go_wp2_with fail
    have HBd:=Hd.mk HB.out.drew
    have HSd:=Hd.mk HS.out.drew
    have hsrc:∀ j u,(flatV B (List.replicate (Nat.min m (n-m)) v))[j]? =some u→wr.drew.cell? ((⟨X,0,none⟩:Addr).add j)=some u:=fun j u hj=>by
     rw [add_plainS,HBd.out.at]
     have hjl:=(List.getElem?_eq_some_iff.1 hj).1
     rw [flatV_len,List.length_replicate] at hjl
     have h2:=HQ2.out
     rw [←rep_take B v m (Nat.min m (n-m)) h2.1,List.getElem?_take,if_pos hjl, ←HT.out,List.getElem?_take,if_pos (by omega)] at hj
     exact hj
    have hfit:m*2+(flatV B (List.replicate (Nat.min m (n-m)) v)).length≤L.length:=by
     rw [flatV_len,List.length_replicate,HL.out]
     have:=HQ2.out
     have:=HM.out
     omega
    have hcp:=run_copyB (P:=Try.prog) wr.drew 61 61 3 64 2 Try.underlying61 valSize2 X (m*2) (n-m) (n-m) 64 L HBd.out (some ⟨X,0,none⟩) m n (flatV B (List.replicate (Nat.min m (n-m)) v)) (by rw [flatV_len,List.length_replicate]) (.inr ⟨_,rfl,hsrc⟩) hfit (flatV_one _ _)
    have hcp2:Blk (wr.drew.setRow X (splice L (m*2) (flatV B (List.replicate (Nat.min m (n-m)) v))).toArray) X 64 (splice L (m*2) (flatV B (List.replicate (Nat.min m (n-m)) v)))∧Step (· =((49,0):Tag)) wr.drew ρ1 (wr.drew.setRow X (splice L (m*2) (flatV B (List.replicate (Nat.min m (n-m)) v))).toArray) ρ1 :=
     ⟨setRow_heap wr.drew X L.toArray _ _ _ HBd.out,⟨rfl,rfl,rfl,by simp [World.setRow],fun _ _=>rfl,fun k _ hk=>setRow_other wr.drew X k _ (by rintro rfl;exact hk _ HX.out rfl),fun f k hk=>f k (by simpa [World.setRow] using hk)⟩⟩
    clear hsrc hfit
    have HCP2:=Hd.mk hcp2
    clear hcp2
    refine wp_region_held_drew (S:=(fun _=>True)) (by kernel_rfl) (trivial) (fun hHeld=>?_)
    refine wpAnyH_take (i:=0) (oi:=?oi0) (v:=?v0) ?hi0 ?hs0 ?hf0 ?hr0 ?hQ0 ?hy0 ?hS0 ?h0
    case hi0=>simp only [List.getElem?_toArray,List.getElem?_cons_succ,List.getElem?_cons_zero];rfl
    case hs0=>kernel_rfl
    case hf0=>kernel_rfl
    case hr0=>kernel_rfl
    case hQ0=>exact fun _ _ _ h=>h
    case hy0 =>
     refine Or.inl ⟨by rfl,?_⟩
     intro w hSw
     (try dsimp only at hSw)
     go_simp
     try with_reducible rfl
    case hS0=>assumption
    try simp only [Act.put,List.setIfInBounds_toArray,List.set_cons_zero,List.set_cons_succ]
    refine wpAnyH_take (i:=1) (oi:=?oi1) (v:=?v1) ?hi1 ?hs1 ?hf1 ?hr1 ?hQ1 ?hy1 ?hS1 ?h1
    case hi1=>simp only [List.getElem?_toArray,List.getElem?_cons_succ,List.getElem?_cons_zero];rfl
    case hs1=>kernel_rfl
    case hf1=>kernel_rfl
    case hr1=>kernel_rfl
    case hQ1=>exact fun _ _ _ h=>h
    case hy1 =>
     refine Or.inl ⟨by rfl,?_⟩
     intro w hSw
     (try dsimp only at hSw)
     go_simp
     try with_reducible rfl
    case hS1=>assumption
    try simp only [Act.put,List.setIfInBounds_toArray,List.set_cons_zero,List.set_cons_succ]
    refine wpAnyH_take (i:=2) (oi:=?oi2) (v:=?v2) ?hi2 ?hs2 ?hf2 ?hr2 ?hQ2 ?hy2 ?hS2 ?h2
    case hi2=>simp only [List.getElem?_toArray,List.getElem?_cons_succ,List.getElem?_cons_zero];rfl
    case hs2=>kernel_rfl
    case hf2=>kernel_rfl
    case hr2=>kernel_rfl
    case hQ2=>exact fun _ _ _ h=>h
    case hy2 =>
     refine Or.inl ⟨by rfl,?_⟩
     intro w hSw
     (try dsimp only at hSw)
     go_simp
     try with_reducible rfl
    case hS2=>assumption
    try simp only [Act.put,List.setIfInBounds_toArray,List.set_cons_zero,List.set_cons_succ]
    refine wpAnyH_take (i:=3) (oi:=?oi3) (v:=?v3) ?hi3 ?hs3 ?hf3 ?hr3 ?hQ3 ?hy3 ?hS3 ?h3
    case hi3=>simp only [List.getElem?_toArray,List.getElem?_cons_succ,List.getElem?_cons_zero];rfl
    case hs3=>kernel_rfl
    case hf3=>kernel_rfl
    case hr3=>kernel_rfl
    case hQ3=>exact fun _ _ _ h=>h
    case hy3 =>
     refine Or.inl ⟨by rfl,?_⟩
     intro w hSw
     (try dsimp only at hSw)
     go_simp
     try with_reducible rfl
    case hS3=>assumption
    try simp only [Act.put,List.setIfInBounds_toArray,List.set_cons_zero,List.set_cons_succ]
    refine wpAnyH_take (i:=4) (oi:=?oi4) (v:=?v4) ?hi4 ?hs4 ?hf4 ?hr4 ?hQ4 ?hy4 ?hS4 ?h4
    case hi4=>simp only [List.getElem?_toArray,List.getElem?_cons_succ,List.getElem?_cons_zero];rfl
    case hs4=>kernel_rfl
    case hf4=>kernel_rfl
    case hr4=>kernel_rfl
    case hQ4=>exact fun _ _ _ h=>h
    case hy4 =>
     refine Or.inl ⟨by rfl,?_⟩
     intro w hSw
     (try dsimp only at hSw)
     go_simp
     try with_reducible rfl
    case hS4=>assumption
    try simp only [Act.put,List.setIfInBounds_toArray,List.set_cons_zero,List.set_cons_succ]
    refine wpAnyH_take (i:=5) (oi:=?oi5) (v:=?v5) ?hi5 ?hs5 ?hf5 ?hr5 ?hQ5 ?hy5 ?hS5 ?h5
    case hi5=>simp only [List.getElem?_toArray,List.getElem?_cons_succ,List.getElem?_cons_zero];rfl
    case hs5=>kernel_rfl
    case hf5=>kernel_rfl
    case hr5=>kernel_rfl
    case hQ5=>exact fun _ _ _ h=>h
    case hy5 =>
     refine Or.inl ⟨by rfl,?_⟩
     intro w hSw
     (try dsimp only at hSw)
     go_simp
     try with_reducible rfl
    case hS5=>assumption
    try simp only [Act.put,List.setIfInBounds_toArray,List.set_cons_zero,List.set_cons_succ]
    refine wpAnyH_take (i:=6) (oi:=?oi6) (v:=?v6) ?hi6 ?hs6 ?hf6 ?hr6 ?hQ6 ?hy6 ?hS6 ?h6
    case hi6=>simp only [List.getElem?_toArray,List.getElem?_cons_succ,List.getElem?_cons_zero];rfl
    case hs6=>kernel_rfl
    case hf6=>kernel_rfl
    case hr6=>kernel_rfl
    case hQ6=>exact fun _ _ _ h=>h
    case hy6 =>
     refine Or.inl ⟨by rfl,?_⟩
     intro w hSw
     (try dsimp only at hSw)
     go_simp
     try with_reducible rfl
    case hS6=>assumption
    try simp only [Act.put,List.setIfInBounds_toArray,List.set_cons_zero,List.set_cons_succ]
    refine wpAnyH_ready (rs:=[7]) (by kernel_rfl) (by simp) ?_
    refine AllReadyH.cons (by simp only [List.getElem?_toArray,List.getElem?_cons_succ,List.getElem?_cons_zero];rfl) (fun K hK=>?_) AllReadyH.nil
    rw [if_pos (by rfl)]
    go_simp
    try clear hHeld
    refine hK.out _ _ trivial (fun hHeld=>?_)
    clear hK K
    try simp only [Act.put,List.setIfInBounds_toArray,List.set_cons_zero,List.set_cons_succ]
    refine wpAnyH_take (i:=8) (oi:=?oi7) (v:=?v7) ?hi7 ?hs7 ?hf7 ?hr7 ?hQ7 ?hy7 ?hS7 ?h7
    case hi7=>simp only [List.getElem?_toArray,List.getElem?_cons_succ,List.getElem?_cons_zero];rfl
    case hs7=>kernel_rfl
    case hf7=>kernel_rfl
    case hr7=>kernel_rfl
    case hQ7=>exact fun _ _ _ h=>h
    case hy7 =>
     refine Or.inl ⟨by rfl,?_⟩
     intro w hSw
     (try dsimp only at hSw)
     go_simp
     try with_reducible rfl
    case hS7=>assumption
    try simp only [Act.put,List.setIfInBounds_toArray,List.set_cons_zero,List.set_cons_succ]
    refine wpAnyH_take (i:=9) (oi:=?oi8) (v:=?v8) ?hi8 ?hs8 ?hf8 ?hr8 ?hQ8 ?hy8 ?hS8 ?h8
    case hi8=>simp only [List.getElem?_toArray,List.getElem?_cons_succ,List.getElem?_cons_zero];rfl
    case hs8=>kernel_rfl
    case hf8=>kernel_rfl
    case hr8=>kernel_rfl
    case hQ8=>exact fun _ _ _ h=>h
    case hy8 =>
     refine Or.inl ⟨by rfl,?_⟩
     intro w hSw
     (try dsimp only at hSw)
     go_simp
     try with_reducible rfl
    case hS8=>assumption
    try simp only [Act.put,List.setIfInBounds_toArray,List.set_cons_zero,List.set_cons_succ]
    refine wpAnyH_done (by kernel_rfl) ?_ _
    try clear hHeld
    have hcp2:=HCP2.out
    have HB4r:=hcp2
    generalize wr.drew.setRow X (splice L (m*2) (flatV B (List.replicate (Nat.min m (n-m)) v))).toArray=W4 at *
    (
     have hB4:=HB4r.1
     have hS4:=HB4r.2
     have h2:=HQ2.out
     have h3:=HM.out
     generalize Nat.min m (n-m)=q at hB4 h2 ⊢
     have hq:m+q≤n:=by omega
     have HB4:Hd (∃ L,Blk W4 X 64 L∧L.length=n*2∧L.take ((m+q)*2)=flatV B (List.replicate (m+q) v)):=⟨_,hB4,by rw [splice_length (by rw [flatV_len,List.length_replicate,HL.out];omega)];exact HL.out,rep_splice HL.out HT.out hq⟩
     have HS4:=Hd.mk (HSd.out.trans hS4)
     have HQ3:=Hd.mk (And.intro hq h2)
     have hqi:(m:Int)+q≤n:=by omega
     have hqz:(0:Int)≤q:=by omega
     have hgi:goInt q= .int .i64 q:=rfl
     clear hB4 hS4 h2 h3 hq hsa hsb HB4r hcp hcp2
     go_wp2
     go_roundw
     case rel =>
      have hw:IntKind.i64.wrap ((m:Int)+q)=((m+q:Nat):Int):=by rw [IntWalk.i64_in _ (by have:=HQ3.out;have:=HN.out;omega)];omega
      exact ⟨m+q,by rw [hw],by have:=HQ3.out;omega,by have:=HQ3.out;have:=HM0.out;omega,HB4.out,HS4.out⟩
     case measure =>
      have h1:=HQ3.out
      have h2:=HM0.out
      have h3:=HM.out
      have hw:IntKind.i64.wrap ((m:Int)+q)=((m+q:Nat):Int):=by rw [IntWalk.i64_in _ (by have:=HN.out;omega)];omega
      rw [hw]
      simp [intOf]
      omega)
   ·have hmn:m=n:=by omega
    subst hmn
    clear hlt hm
    go_wp2
    go_ret
    obtain ⟨L,hB,hL,hT⟩:=HBB.out
    have hO:OwnSl wr ρ1 (49,0) 64 2 (.slice (some ⟨X,0,none⟩) m m) m (flatV B (List.replicate m v)):=OwnSl.mk HX.out hB (Nat.le_refl _) (by unfold maxLen;have:=HN.out;omega) (by rw [hL];omega) hT
    exact ⟨X,rfl,Nat.le_of_eq HX0.out,fun t'=>hO.adopt HS.out (fun b t h e=>HG.out.no (t:=(49,0)) (by decide) b (by rw [h,e])) HFR.out (Nat.le_of_eq HX0.out) t'⟩
end
section
open Go Go.RowKit
section
variable (p:Pg) (n N:Nat) (szs:List Int) (fuel:Int) (R:Nat) (w:World) (ρ:Ghost) (h:Hp) (B:List Nat) (x:Int) (hr:RnR p n N szs fuel R w ρ h B)
include p n N szs fuel R w ρ h B x hr
theorem spend_ok (h0:0≤x) (hx:x≤8192) (hle:h.ticks+x≤fuel) :
 Calls Try.prog 56 #[.pointer (some ⟨R,0,none⟩), .int .i64 x] w fun e w'=>e= .returned (.pointer none)∧RnR p n N szs fuel R w' ρ { h with ticks:=h.ticks+x } B∧Step (· =(40,0)) w ρ w' ρ:=by
 obtain ⟨A3,c3,A4,c4,A5,c5,e2,e4,e5,e6,e7,_,_,_,hf⟩:=hr.form
 have HRN:=Hd.mk hr
 have ht0:=hr.t0
 have hfu:=hr.fu
 have hlt:=hr.lt
 have f6:=hf 6
 obtain ⟨tk,htk⟩:∃ z,h.ticks=z:=⟨_,rfl⟩
 rw [htk] at e6 hle ht0
 have HTK:=Hd.mk htk
 have ewr:IntKind.i64.wrap (tk+x)=tk+x:=IntWalk.i64_in _ (by omega)
 have d1:decide (fuel<tk+x)=false:=decide_eq_false (by omega)
 have d2:decide (tk+x > fuel)=false:=decide_eq_false (by omega)
 have HB:=Hd.mk (And.intro h0 (And.intro hx (And.intro hle (And.intro ht0 hfu))))
 rw [htk]
 clear hr hf htk e2 e4 e7 h0 hx hle ht0 hfu
 go_enter Try.func56,Try.ntmps56
 go_wp2
 go_quiet (skip)
 have hrq:RnR p n N szs fuel R (w.drewN nq) ρ h B:=HRN.out.step ((Step.refl (fun _=>False) w ρ).drewN nq) (fun _ _ h=>h)
 have HQ:=Hd.mk ((Step.refl (· =(40,0)) w ρ).drewN nq)
 have q6:(w.drewN nq).cell? ⟨R,6,none⟩=some (.int .i64 tk):=e6
 have q5:(w.drewN nq).cell? ⟨R,5,none⟩=some (.int .i64 fuel):=e5
 have g6:(w.drewN nq).frozen? ⟨R,6,none⟩=false:=f6
 have gl:R<(w.drewN nq).heap.size:=hlt
 clear e5 e6 f6 hlt HRN
 generalize w.drewN nq=W at *
 have HRN:=Hd.mk hrq
 clear hrq
 go_wp2
 go_ret
 obtain ⟨g1,g2⟩:=HRN.out.setTicks (tk+x) (by have:=HB.out;omega) (by have:=HB.out;omega)
 exact ⟨rfl,g1,HQ.out.trans g2⟩
theorem spend_no (hfr:Fresh w ρ) (h0:0≤x) (hx:x≤8192) (hle:fuel<h.ticks+x) :
 Calls Try.prog 56 #[.pointer (some ⟨R,0,none⟩), .int .i64 x] w fun e w'=>∃ X,e= .returned (.pointer (some ⟨X,0,none⟩))∧RnR p n N szs fuel R w' ρ { h with ticks:=fuel } B∧Step (· =(40,0)) w ρ w' ρ∧SgR w' ρ fuelSg X:=by
 obtain ⟨A3,c3,A4,c4,A5,c5,e2,e4,e5,e6,e7,_,_,_,hf⟩:=hr.form
 have HRN:=Hd.mk hr
 have HFR:=Hd.mk hfr
 have ht0:=hr.t0
 have ht1:=hr.t1
 have hfu:=hr.fu
 have hlt:=hr.lt
 have f6:=hf 6
 obtain ⟨tk,htk⟩:∃ z,h.ticks=z:=⟨_,rfl⟩
 rw [htk] at e6 hle ht0 ht1
 have HTK:=Hd.mk htk
 have ewr:IntKind.i64.wrap (tk+x)=tk+x:=IntWalk.i64_in _ (by omega)
 have d1:decide (fuel<tk+x)=true:=decide_eq_true (by omega)
 have d2:decide (tk+x > fuel)=true:=decide_eq_true (by omega)
 have HB:=Hd.mk (And.intro h0 (And.intro hx (And.intro hle (And.intro ht0 (And.intro ht1 hfu)))))
 clear hr hf hfr htk e2 e4 e7 h0 hx hle ht0 ht1 hfu
 go_enter Try.func56,Try.ntmps56
 go_wp2
 go_quiet (skip)
 have hrq:RnR p n N szs fuel R (w.drewN nq) ρ h B:=HRN.out.step ((Step.refl (fun _=>False) w ρ).drewN nq) (fun _ _ h=>h)
 have HQ:=Hd.mk ((Step.refl (· =(40,0)) w ρ).drewN nq)
 have q6:(w.drewN nq).cell? ⟨R,6,none⟩=some (.int .i64 tk):=e6
 have q5:(w.drewN nq).cell? ⟨R,5,none⟩=some (.int .i64 fuel):=e5
 have g6:(w.drewN nq).frozen? ⟨R,6,none⟩=false:=f6
 have gl:R<(w.drewN nq).heap.size:=hlt
 clear e5 e6 f6 hlt HRN
 generalize w.drewN nq=W at *
 have HRN:=Hd.mk hrq
 clear hrq ewr
 go_wp2
 go_ret
 obtain ⟨g1,g2⟩:=HRN.out.setTicks fuel (by have:=HB.out;omega) (Int.le_refl _)
 have hs:=(Step.refl (fun _=>False) (W.setCell ⟨R,6,none⟩ (.int .i64 fuel)) ρ).alloc (.cells #[.int .i64 (-1), .int .i64 0] 69)
 have hst:=(HQ.out.trans g2)
 have hn:ρ W.heap.size=none:=HQ.out.fresh HFR.out _ (Nat.le_refl _)
 refine ⟨_,rfl,g1.step hs (fun _ _ h=>h),hst.trans (hs.mono (fun _ h=>h.elim)),hn,?_,⟨by decide,by decide⟩,⟨by decide,by decide⟩⟩
 have hz:(W.setCell ⟨R,6,none⟩ (.int .i64 fuel)).heap.size=W.heap.size:=by simp
 exact Blk.newAt hz [.int .i64 (-1), .int .i64 0] 69
end
end
section
open Go Go.RowKit
theorem i64_wrap (x:Int):I64 (IntKind.i64.wrap x):=by rw [IntKind.wrap_i64];unfold I64;omega
theorem yes_any (w:World) (b:Bool) :
 Calls Try.prog 58 #[.bool b] w fun e w'=>e= .returned (.tuple #[.agg #[.int .i64 (yesV b).word, .pointer none], .pointer none])∧Below w.heap.size w w':=by
 have HS:=Hd.mk ((Step.refl (fun _=>False) w (fun _=>none)))
 cases b with
 |true =>
  show Calls Try.prog 58 #[.bool true] w fun e w'=>e= .returned (.tuple #[.agg #[.int .i64 1, .pointer none], .pointer none])∧Below w.heap.size w w'
  go_enter Try.func58,Try.ntmps58
  go_wp2
  refine bodyPost_ret (results_cell2 rfl _ _ w.heap.size [.int .i64 1, .pointer none] rfl ?_ Try.underlying64 rfl) rfl ?_
  ·exact Blk.new w [.int .i64 1, .pointer none] _
  ·exact ⟨rfl,(HS.out.alloc _).toBelow⟩
 |false =>
  show Calls Try.prog 58 #[.bool false] w fun e w'=>e= .returned (.tuple #[.agg #[.int .i64 0, .pointer none], .pointer none])∧Below w.heap.size w w'
  go_enter Try.func58,Try.ntmps58
  go_wp2
  refine bodyPost_ret (results_cell2 rfl _ _ w.heap.size [.int .i64 0, .pointer none] rfl ?_ Try.underlying64 rfl) rfl ?_
  ·exact Blk.new w [.int .i64 0, .pointer none] _
  ·exact ⟨rfl,(HS.out.alloc _).toBelow⟩
theorem i64_wrap64 (x:Int):I64 (wrap64 x):=by unfold wrap64 I64;omega
def RkP (op a b:Int) (w:World) (ρ:Ghost) (B:List Nat) (e:Ending) (w':World):Prop:=∃ x s,e= .returned (.tuple #[x, .pointer s])∧AnsR w' ρ B (reckonR op a b) x s∧Step (fun _=>False) w ρ w' ρ
theorem i64_tmod (a b:Int) (h:I64 a):I64 (a.tmod b):=by
 obtain ⟨h1,h2⟩:=h
 have h3:=Int.natAbs_tmod a b
 have h4:(a.tmod b).natAbs≤a.natAbs:=by rw [h3];exact Nat.mod_le _ _
 by_cases h0:0≤a
 ·have:=Int.tmod_nonneg b h0
  constructor <;> omega
 ·have:=Int.tmod_nonneg b (show 0≤ -a by omega)
  rw [Int.neg_tmod] at this
  constructor <;> omega
section
variable (w:World)
include w
theorem two_set (v0 v1 u0 u1:Value) (T:TypeId) (o:Obj):Blk ((((w.alloc (.cells #[v0,v1] T)).alloc o).setCell ⟨w.heap.size,0,none⟩ u0).setCell ⟨w.heap.size,1,none⟩ u1) w.heap.size T [u0,u1]:=by
 have h:=(((Blk.new' w #[v0,v1] T).alloc o).setCell 0 u0).setCell 1 u1
 exact h
theorem two_set0 (v0 v1 u0 u1:Value) (T:TypeId):Blk (((w.alloc (.cells #[v0,v1] T)).setCell ⟨w.heap.size,0,none⟩ u0).setCell ⟨w.heap.size,1,none⟩ u1) w.heap.size T [u0,u1]:=by
 have h:=((Blk.new' w #[v0,v1] T).setCell 0 u0).setCell 1 u1
 exact h
section
variable (ρ:Ghost) (B:List Nat)
include ρ B
theorem reckon_19 (a b:Int) :
 Calls Try.prog 48 #[.int .i64 19, .int .i64 a, .int .i64 b] w (RkP 19 a b w ρ B):=by
 have HS:=Hd.mk (Step.refl (fun _=>False) w ρ)
 go_enter Try.func48,Try.ntmps48
 go_wp2
 refine bodyPost_ret (results_cell2 rfl _ _ w.heap.size [.int .i64 (wrap64 (a+b)), .pointer none] rfl ?_ Try.underlying64 rfl) rfl ?_
 ·exact Blk.new w [.int .i64 (wrap64 (a+b)), .pointer none] _
 ·exact ⟨_,_,rfl,by rw [show reckonR 19 a b= .ok (wd (wrap64 (a+b))) from by rfl];exact ⟨rfl,rfl,i64_wrap64 _,fun k h=>by cases h⟩,HS.out.alloc _⟩
theorem reckon_20 (a b:Int) :
 Calls Try.prog 48 #[.int .i64 20, .int .i64 a, .int .i64 b] w (RkP 20 a b w ρ B):=by
 have HS:=Hd.mk (Step.refl (fun _=>False) w ρ)
 go_enter Try.func48,Try.ntmps48
 go_wp2
 refine bodyPost_ret (results_cell2 rfl _ _ w.heap.size [.int .i64 (wrap64 (a-b)), .pointer none] rfl ?_ Try.underlying64 rfl) rfl ?_
 ·exact Blk.new w [.int .i64 (wrap64 (a-b)), .pointer none] _
 ·exact ⟨_,_,rfl,by rw [show reckonR 20 a b= .ok (wd (wrap64 (a-b))) from by rfl];exact ⟨rfl,rfl,i64_wrap64 _,fun k h=>by cases h⟩,HS.out.alloc _⟩
theorem reckon_21 (a b:Int) :
 Calls Try.prog 48 #[.int .i64 21, .int .i64 a, .int .i64 b] w (RkP 21 a b w ρ B):=by
 have HS:=Hd.mk (Step.refl (fun _=>False) w ρ)
 go_enter Try.func48,Try.ntmps48
 go_wp2
 refine bodyPost_ret (results_cell2 rfl _ _ w.heap.size [.int .i64 (wrap64 (a*b)), .pointer none] rfl ?_ Try.underlying64 rfl) rfl ?_
 ·exact Blk.new w [.int .i64 (wrap64 (a*b)), .pointer none] _
 ·exact ⟨_,_,rfl,by rw [show reckonR 21 a b= .ok (wd (wrap64 (a*b))) from by rfl];exact ⟨rfl,rfl,i64_wrap64 _,fun k h=>by cases h⟩,HS.out.alloc _⟩
theorem reckon_24 (a b:Int) :
 Calls Try.prog 48 #[.int .i64 24, .int .i64 a, .int .i64 b] w (RkP 24 a b w ρ B):=by
 have HS:=Hd.mk (Step.refl (fun _=>False) w ρ)
 obtain ⟨z,hz⟩:∃ z,decide (a=b)=z:=⟨_,rfl⟩
 have HZ:=Hd.mk hz
 by_cases hc:a=b
 ·have hz2:z=true:=by rw [←hz];simp [hc]
  subst hz2
  have w1:(a == b)=true:=by simp [hc]
  have w2:decide (a=b)=true:=decide_eq_true hc
  clear hc hz
  go_enter Try.func48,Try.ntmps48
  go_wp2_with fail
  refine (yes_any _ true).mono ?_
  rintro e W2 ⟨rfl,hb⟩
  have hb0:Blk (w.alloc (.cells #[.int .i64 0, .pointer none] 64)) w.heap.size 64 [.int .i64 0, .pointer none]:=Blk.new' _ _ _
  have hs0:=(HS.out.alloc (.cells #[.int .i64 0, .pointer none] 64)).of_below hb
  have hb2:=(Step.ofBelow ρ hb).blk hb0 (fun _ _ h=>h)
  have HB2:=Hd.mk hb2
  have HS0:=Hd.mk hs0
  have l2:=hb2.lt
  have q0:W2.cell? ⟨w.heap.size,0,none⟩=some (.int .i64 0):=hb2.cell (i:=0) rfl
  have q1:W2.cell? ⟨w.heap.size,1,none⟩=some (.pointer none):=hb2.cell (i:=1) rfl
  have g0:=hb2.free 0
  have g1:=hb2.free 1
  clear hb hb0 hs0 hb2
  go_wp2
  refine bodyPost_ret (results_cell2 rfl _ _ w.heap.size [.int .i64 (yesV true).word, .pointer none] rfl ?_ Try.underlying64 rfl) rfl ?_
  ·exact (HB2.out.setCell 0 _).setCell 1 _
  ·refine ⟨_,_,rfl,?_,(HS0.out.setCell_new (a:=⟨w.heap.size,0,none⟩) (Nat.le_refl _) _).setCell_new (a:=⟨w.heap.size,1,none⟩) (Nat.le_refl _) _⟩
   rw [show reckonR 24 a b= .ok (yesV (decide (a=b))) from rfl,HZ.out]
   exact ⟨rfl,rfl,⟨by decide,by decide⟩,fun k h=>by cases h⟩
 ·have hz2:z=false:=by rw [←hz];simp [hc]
  subst hz2
  have w1:(a == b)=false:=by simp [hc]
  have w2:decide (a=b)=false:=decide_eq_false hc
  clear hc hz
  go_enter Try.func48,Try.ntmps48
  go_wp2_with fail
  refine (yes_any _ false).mono ?_
  rintro e W2 ⟨rfl,hb⟩
  have hb0:Blk (w.alloc (.cells #[.int .i64 0, .pointer none] 64)) w.heap.size 64 [.int .i64 0, .pointer none]:=Blk.new' _ _ _
  have hs0:=(HS.out.alloc (.cells #[.int .i64 0, .pointer none] 64)).of_below hb
  have hb2:=(Step.ofBelow ρ hb).blk hb0 (fun _ _ h=>h)
  have HB2:=Hd.mk hb2
  have HS0:=Hd.mk hs0
  have l2:=hb2.lt
  have q0:W2.cell? ⟨w.heap.size,0,none⟩=some (.int .i64 0):=hb2.cell (i:=0) rfl
  have q1:W2.cell? ⟨w.heap.size,1,none⟩=some (.pointer none):=hb2.cell (i:=1) rfl
  have g0:=hb2.free 0
  have g1:=hb2.free 1
  clear hb hb0 hs0 hb2
  go_wp2
  refine bodyPost_ret (results_cell2 rfl _ _ w.heap.size [.int .i64 (yesV false).word, .pointer none] rfl ?_ Try.underlying64 rfl) rfl ?_
  ·exact (HB2.out.setCell 0 _).setCell 1 _
  ·refine ⟨_,_,rfl,?_,(HS0.out.setCell_new (a:=⟨w.heap.size,0,none⟩) (Nat.le_refl _) _).setCell_new (a:=⟨w.heap.size,1,none⟩) (Nat.le_refl _) _⟩
   rw [show reckonR 24 a b= .ok (yesV (decide (a=b))) from rfl,HZ.out]
   exact ⟨rfl,rfl,⟨by decide,by decide⟩,fun k h=>by cases h⟩
theorem reckon_25 (a b:Int) :
 Calls Try.prog 48 #[.int .i64 25, .int .i64 a, .int .i64 b] w (RkP 25 a b w ρ B):=by
 have HS:=Hd.mk (Step.refl (fun _=>False) w ρ)
 obtain ⟨z,hz⟩:∃ z,decide (a<b)=z:=⟨_,rfl⟩
 have HZ:=Hd.mk hz
 by_cases hc:a<b
 ·have hz2:z=true:=by rw [←hz];simp [hc]
  subst hz2
  have w2:decide (a<b)=true:=decide_eq_true hc
  clear hc hz
  go_enter Try.func48,Try.ntmps48
  go_wp2_with fail
  refine (yes_any _ true).mono ?_
  rintro e W2 ⟨rfl,hb⟩
  have hb0:Blk (w.alloc (.cells #[.int .i64 0, .pointer none] 64)) w.heap.size 64 [.int .i64 0, .pointer none]:=Blk.new' _ _ _
  have hs0:=(HS.out.alloc (.cells #[.int .i64 0, .pointer none] 64)).of_below hb
  have hb2:=(Step.ofBelow ρ hb).blk hb0 (fun _ _ h=>h)
  have HB2:=Hd.mk hb2
  have HS0:=Hd.mk hs0
  have l2:=hb2.lt
  have q0:W2.cell? ⟨w.heap.size,0,none⟩=some (.int .i64 0):=hb2.cell (i:=0) rfl
  have q1:W2.cell? ⟨w.heap.size,1,none⟩=some (.pointer none):=hb2.cell (i:=1) rfl
  have g0:=hb2.free 0
  have g1:=hb2.free 1
  clear hb hb0 hs0 hb2
  go_wp2
  refine bodyPost_ret (results_cell2 rfl _ _ w.heap.size [.int .i64 (yesV true).word, .pointer none] rfl ?_ Try.underlying64 rfl) rfl ?_
  ·exact (HB2.out.setCell 0 _).setCell 1 _
  ·refine ⟨_,_,rfl,?_,(HS0.out.setCell_new (a:=⟨w.heap.size,0,none⟩) (Nat.le_refl _) _).setCell_new (a:=⟨w.heap.size,1,none⟩) (Nat.le_refl _) _⟩
   rw [show reckonR 25 a b= .ok (yesV (decide (a<b))) from rfl,HZ.out]
   exact ⟨rfl,rfl,⟨by decide,by decide⟩,fun k h=>by cases h⟩
 ·have hz2:z=false:=by rw [←hz];simp [hc]
  subst hz2
  have w2:decide (a<b)=false:=decide_eq_false hc
  clear hc hz
  go_enter Try.func48,Try.ntmps48
  go_wp2_with fail
  refine (yes_any _ false).mono ?_
  rintro e W2 ⟨rfl,hb⟩
  have hb0:Blk (w.alloc (.cells #[.int .i64 0, .pointer none] 64)) w.heap.size 64 [.int .i64 0, .pointer none]:=Blk.new' _ _ _
  have hs0:=(HS.out.alloc (.cells #[.int .i64 0, .pointer none] 64)).of_below hb
  have hb2:=(Step.ofBelow ρ hb).blk hb0 (fun _ _ h=>h)
  have HB2:=Hd.mk hb2
  have HS0:=Hd.mk hs0
  have l2:=hb2.lt
  have q0:W2.cell? ⟨w.heap.size,0,none⟩=some (.int .i64 0):=hb2.cell (i:=0) rfl
  have q1:W2.cell? ⟨w.heap.size,1,none⟩=some (.pointer none):=hb2.cell (i:=1) rfl
  have g0:=hb2.free 0
  have g1:=hb2.free 1
  clear hb hb0 hs0 hb2
  go_wp2
  refine bodyPost_ret (results_cell2 rfl _ _ w.heap.size [.int .i64 (yesV false).word, .pointer none] rfl ?_ Try.underlying64 rfl) rfl ?_
  ·exact (HB2.out.setCell 0 _).setCell 1 _
  ·refine ⟨_,_,rfl,?_,(HS0.out.setCell_new (a:=⟨w.heap.size,0,none⟩) (Nat.le_refl _) _).setCell_new (a:=⟨w.heap.size,1,none⟩) (Nat.le_refl _) _⟩
   rw [show reckonR 25 a b= .ok (yesV (decide (a<b))) from rfl,HZ.out]
   exact ⟨rfl,rfl,⟨by decide,by decide⟩,fun k h=>by cases h⟩
theorem reckon_0 (op a:Int) (h19:¬op=19) (h20:¬op=20) (h21:¬op=21) (h24:¬op=24) (h25:¬op=25) (hfr:Fresh w ρ) :
 Calls Try.prog 48 #[.int .i64 op, .int .i64 a, .int .i64 0] w (RkP op a 0 w ρ B):=by
 have HS:=Hd.mk (Step.refl (fun _=>False) w ρ)
 have HFR:=Hd.mk hfr
 have HN:=Hd.mk (And.intro h19 (And.intro h20 (And.intro h21 (And.intro h24 h25))))
 have w19:(op == 19)=false:=by simp [h19]
 have w20:(op == 20)=false:=by simp [h20]
 have w21:(op == 21)=false:=by simp [h21]
 have w24:(op == 24)=false:=by simp [h24]
 have w25:(op == 25)=false:=by simp [h25]
 clear hfr
 go_enter Try.func48,Try.ntmps48
 go_wp2
 have hz:(w.alloc (.cells #[.int .i64 0, .pointer none] 64)).heap.size=w.heap.size+1:=by simp
 refine bodyPost_ret (results_cell2 rfl _ _ w.heap.size [.int .i64 0, .pointer none] rfl ?_ Try.underlying64 rfl) rfl ?_
 ·exact (Blk.new' w #[.int .i64 0, .pointer none] _).alloc _
 ·refine ⟨_,_,rfl,?_,(HS.out.alloc _).alloc _⟩
  have hr:reckonR op a 0= .error ⟨0,0⟩:=by
   obtain ⟨g1,g2,g3,g4,g5⟩:=HN.out
   unfold reckonR
   rw [if_neg g1,if_neg g2,if_neg g3,if_neg g4,if_neg g5,if_pos rfl]
  rw [hr]
  refine ⟨w.heap.size+1,rfl,rfl,HFR.out _ (by omega),?_,⟨by decide,by decide⟩,⟨by decide,by decide⟩⟩
  exact Blk.newAt hz [.int .i64 0, .int .i64 0] 69
section
variable (op a b:Int) (h19:¬op=19) (h20:¬op=20) (h21:¬op=21) (h24:¬op=24) (h25:¬op=25)
include op a b h19 h20 h21 h24 h25
theorem reckon_22 (h22:op=22) (hb:¬b=0) (ha:I64 a) :
 Calls Try.prog 48 #[.int .i64 op, .int .i64 a, .int .i64 b] w (RkP op a b w ρ B):=by
 have HS:=Hd.mk (Step.refl (fun _=>False) w ρ)
 have hr:reckonR op a b= .ok (wd (wrap64 (a.tdiv b))):=by
  unfold reckonR
  rw [if_neg h19,if_neg h20,if_neg h21,if_neg h24,if_neg h25,if_neg hb,if_pos h22]
 have HRR:=Hd.mk hr
 have HA:=Hd.mk ha
 have w19:(op == 19)=false:=by simp [h19]
 have w20:(op == 20)=false:=by simp [h20]
 have w21:(op == 21)=false:=by simp [h21]
 have w24:(op == 24)=false:=by simp [h24]
 have w25:(op == 25)=false:=by simp [h25]
 have w22:(op == 22)=true:=by simp [h22]
 have wb:(b == 0)=false:=by simp [hb]
 clear hr ha
 go_enter Try.func48,Try.ntmps48
 go_wp2
 refine bodyPost_ret (results_cell2 rfl _ _ w.heap.size [.int .i64 (wrap64 (a.tdiv b)), .pointer none] rfl ?_ Try.underlying64 rfl) rfl ?_
 ·exact Blk.new w [.int .i64 (wrap64 (a.tdiv b)), .pointer none] _
 ·exact ⟨_,_,rfl,by rw [HRR.out];exact ⟨rfl,rfl,i64_wrap64 _,fun k h=>by cases h⟩,HS.out.alloc _⟩
theorem reckon_23 (h22:¬op=22) (hb:¬b=0) (ha:I64 a) :
 Calls Try.prog 48 #[.int .i64 op, .int .i64 a, .int .i64 b] w (RkP op a b w ρ B):=by
 have HS:=Hd.mk (Step.refl (fun _=>False) w ρ)
 have hr:reckonR op a b= .ok (wd (a.tmod b)):=by
  unfold reckonR
  rw [if_neg h19,if_neg h20,if_neg h21,if_neg h24,if_neg h25,if_neg hb,if_neg h22]
 have HRR:=Hd.mk hr
 have HA:=Hd.mk ha
 have w19:(op == 19)=false:=by simp [h19]
 have w20:(op == 20)=false:=by simp [h20]
 have w21:(op == 21)=false:=by simp [h21]
 have w24:(op == 24)=false:=by simp [h24]
 have w25:(op == 25)=false:=by simp [h25]
 have w22:(op == 22)=false:=by simp [h22]
 have wb:(b == 0)=false:=by simp [hb]
 clear hr ha
 go_enter Try.func48,Try.ntmps48
 go_wp2
 refine bodyPost_ret (results_cell2 rfl _ _ w.heap.size [.int .i64 (a.tmod b), .pointer none] rfl ?_ Try.underlying64 rfl) rfl ?_
 ·exact Blk.new w [.int .i64 (a.tmod b), .pointer none] _
 ·exact ⟨_,_,rfl,by rw [HRR.out];exact ⟨rfl,rfl,i64_tmod a b HA.out,fun k h=>by cases h⟩,HS.out.alloc _⟩
end
theorem reckon_any (op a b:Int) (ha:I64 a) (hfr:Fresh w ρ) :
 Calls Try.prog 48 #[.int .i64 op, .int .i64 a, .int .i64 b] w (RkP op a b w ρ B):=by
 by_cases h19:op=19
 ·subst h19;exact reckon_19 w ρ B a b
 by_cases h20:op=20
 ·subst h20;exact reckon_20 w ρ B a b
 by_cases h21:op=21
 ·subst h21;exact reckon_21 w ρ B a b
 by_cases h24:op=24
 ·subst h24;exact reckon_24 w ρ B a b
 by_cases h25:op=25
 ·subst h25;exact reckon_25 w ρ B a b
 by_cases hb:b=0
 ·subst hb;exact reckon_0 w ρ B op a h19 h20 h21 h24 h25 hfr
 by_cases h22:op=22
 ·exact reckon_22 w ρ B op a b h19 h20 h21 h24 h25 h22 hb ha
 ·exact reckon_23 w ρ B op a b h19 h20 h21 h24 h25 h22 hb ha
end
end
end
section
open Go Go.RowKit
def RunP (p:Pg) (n N:Nat) (szs:List Int) (fuel:Int) (R:Nat) (w:World) (ρ:Ghost) (B:List Nat) (T:Tag→Prop) (a:Ans) (h':Hp) (e:Ending) (w':World):Prop :=
 ∃ ρ' B' x s,e= .returned (.tuple #[x, .pointer s])∧AnsR w' ρ' (B++B') a x s∧RnR p n N szs fuel R w' ρ' h' (B++B')∧Step T w ρ w' ρ'∧OkG ρ'
theorem RnR.newCell {p:Pg} {n N:Nat} {szs:List Int} {fuel:Int} {R:Nat} {w:World} {ρ:Ghost} {h:Hp} {B:List Nat} (hr:RnR p n N szs fuel R w ρ h B) (c:Cl) (A:Option Addr) (cp:Nat) (ba:Option Addr) (hrow:OwnSl w ρ (42,h.cells.length) 64 2 (.slice A c.parts.length cp) c.parts.length (flatV B c.parts)) (hbp:BpR w ρ N c.block ba) (hcode:I64 c.code) (hok:∀ v,v ∈ c.parts→VOk B.length v) (hsz:c.parts.length≤1100000) :
 RnR p n N szs fuel R (w.alloc (.cells #[.int .i64 c.code, .slice A c.parts.length cp, .pointer ba] 113)) (ρ.put w.heap.size (41,h.cells.length)) { h with cells:=h.cells++[c] } (B++[w.heap.size]) ∧
  Step (fun _=>False) w ρ (w.alloc (.cells #[.int .i64 c.code, .slice A c.parts.length cp, .pointer ba] 113)) (ρ.put w.heap.size (41,h.cells.length)):=by
 have hs:=(Step.refl (fun _=>False) w ρ).alloc_tag (.cells #[.int .i64 c.code, .slice A c.parts.length cp, .pointer ba] 113) (41,h.cells.length)
 have hr2:=hr.step hs (fun _ _ h=>h)
 refine ⟨⟨?_,hr2.tag,by simp [hr.len],fun k c' b hk hb=>?_,hr.t0,hr.t1,hr.fu⟩,hs⟩
 ·exact hr2.blk
 ·by_cases hlt:k<h.cells.length
  ·rw [List.getElem?_append_left hlt] at hk
   rw [List.getElem?_append_left (by rw [hr.len];exact hlt)] at hb
   exact (hr2.cells k c' b hk hb).app _
  ·have hke:k=h.cells.length:=by
    have:=(List.getElem?_eq_some_iff.1 hk).1
    simp only [List.length_append,List.length_singleton] at this
    omega
   subst hke
   rw [List.getElem?_append_right (Nat.le_refl _),Nat.sub_self] at hk
   rw [List.getElem?_append_right (by rw [hr.len];exact Nat.le_refl _),hr.len,Nat.sub_self] at hb
   simp only [List.getElem?_cons_zero,Option.some.injEq] at hk hb
   subst hk
   subst hb
   refine ⟨Ghost.put_same _ _ _,⟨A,cp,ba,Blk.new' _ _ _,?_,hbp.step hs⟩,hcode,fun v hv=>(hok v hv).mono (by rw [List.length_append];omega),hsz⟩
   rw [flatV_app hok]
   exact hrow.step hs (fun h=>h)
theorem newVal {B:List Nat} {k Y:Nat} (hk:k=B.length):valV (B++[Y]) ⟨0,some k⟩=[.int .i64 0, .pointer (some ⟨Y,0,none⟩)]:=by
 subst hk
 simp [valV,ptrV]
theorem newVOk {B:List Nat} {k Y:Nat} (hk:k=B.length):VOk (B++[Y]).length ⟨0,some k⟩:=⟨(⟨by decide,by decide⟩:I64 0),fun j hj=>by cases hj;simp [hk]⟩
theorem nilVOk (m:Nat) (x:Int) (hx:I64 x):VOk m (wd x):=⟨hx,fun k h=>by cases h⟩
theorem wdVal (B:List Nat) (x:Int):valV B (wd x)=[.int .i64 x, .pointer none]:=rfl
section
variable {p:Pg} {n N:Nat} {szs:List Int} {fuel:Int} {R:Nat} {w:World} {ρ:Ghost} {h:Hp} {B:List Nat} (hr:RnR p n N szs fuel R w ρ h B)
include p n N szs fuel R w ρ h B hr
theorem RnR.at {v:Vl} {k:Nat} {c:Cl} (hv:h.of v=some (k,c)) :
 ∃ b A cp ba,ptrV B v=some ⟨b,0,none⟩∧h.cells[k]? =some c∧B[k]? =some b∧b<w.heap.size∧CellR w ρ N B k c b∧w.cell? ⟨b,0,none⟩=some (.int .i64 c.code)∧w.cell? ⟨b,1,none⟩=some (.slice A c.parts.length cp)∧w.cell? ⟨b,2,none⟩=some (.pointer ba) ∧
  OwnSl w ρ (42,k) 64 2 (.slice A c.parts.length cp) c.parts.length (flatV B c.parts)∧BpR w ρ N c.block ba:=by
 unfold Hp.of at hv
 cases hc:v.cell with
 |none=>rw [hc] at hv;cases hv
 |some j' =>
  rw [hc] at hv
  simp only [Option.bind_some,Option.map_eq_some_iff] at hv
  obtain ⟨c',h1,h2⟩:=hv
  obtain ⟨rfl,rfl⟩:=Prod.mk.inj h2
  have hlt:j'<B.length:=by rw [hr.len];exact (List.getElem?_eq_some_iff.1 h1).1
  have hb:=List.getElem?_eq_getElem hlt
  have hcr:=hr.cells j' c' _ h1 hb
  obtain ⟨A,cp,ba,h3,h4,h5⟩:=hcr.out
  refine ⟨B[j'],A,cp,ba,?_,h1,hb,h3.lt,hcr,h3.cell (i:=0) rfl,h3.cell (i:=1) rfl,h3.cell (i:=2) rfl,h4,h5⟩
  unfold ptrV
  rw [hc,Option.bind_some,hb,Option.map_some]
theorem RnR.put {k i g cp:Nat} {c:Cl} {b:Nat} {v:Vl} (hk:h.cells[k]? =some c) (hb:B[k]? =some b) (h1:w.cell? ⟨b,1,none⟩=some (.slice (some ⟨g,0,none⟩) c.parts.length cp)) (hi:i<c.parts.length) (hv:VOk B.length v) :
 RnR p n N szs fuel R ((w.setCell ⟨g,i*2,none⟩ (.int .i64 v.word)).setCell ⟨g,i*2+1,none⟩ (.pointer (ptrV B v))) ρ (h.put k { c with parts:=c.parts.set i v }) B ∧
  Step (· =((42,k):Tag)) w ρ ((w.setCell ⟨g,i*2,none⟩ (.int .i64 v.word)).setCell ⟨g,i*2+1,none⟩ (.pointer (ptrV B v))) ρ:=by
 have hc:=hr.cells k c b hk hb
 obtain ⟨A,cp',ba',h3,h4,h5⟩:=hc.out
 have h6:=h3.cell (i:=1) rfl
 rw [h1] at h6
 cases h6
 have hg:ρ g=some (42,k):=by
  obtain ⟨g',c',hv',hr',_⟩:=h4.some (by omega)
  cases hv'
  exact hr'
 have hs:Step (· =((42,k):Tag)) w ρ ((w.setCell ⟨g,i*2,none⟩ (.int .i64 v.word)).setCell ⟨g,i*2+1,none⟩ (.pointer (ptrV B v))) ρ :=
  Step.setCell (T:=(· =((42,k):Tag))) (a:=⟨g,i*2+1,none⟩) (t:=(42,k)) (Step.setCell (T:=(· =((42,k):Tag))) (a:=⟨g,i*2,none⟩) (t:=(42,k)) (Step.refl _ w ρ) hg rfl _) hg rfl _
 obtain ⟨A1,c1,A2,c2,A3,c3,A4,c4,A5,c5,g1,g2,g3,g4⟩:=hr.blk
 refine ⟨⟨⟨A1,c1,A2,c2,A3,c3,A4,c4,A5,c5,hs.blk' g1 hr.tag (by simp),g2.step hs,g3.step hs (fun _ _ _ h=>h),g4.step hs (by simp)⟩,hr.tag,by rw [hr.len];simp [Hp.put],fun j c' b' hj hb'=>?_,hr.t0,hr.t1,hr.fu⟩,hs⟩
 unfold Hp.put at hj
 simp only [List.getElem?_set] at hj
 by_cases hjk:k=j
 ·subst hjk
  rw [if_pos rfl] at hj
  split at hj
  ·cases hj
   rw [hb] at hb'
   cases hb'
   have h8:=hs.blk' h3 hc.tag (by simp)
   refine ⟨hc.tag,⟨some ⟨g,0,none⟩,cp,ba',?_,?_,h5.step hs⟩,hc.code,fun u hu=>?_,by simpa using hc.sz⟩
   ·simp only [List.length_set]
    exact h8
   ·have h7:=(h4.set (i*2) (.int .i64 v.word)).set (i*2+1) (.pointer (ptrV B v))
    rw [flatV_set B v hi] at h7
    simp only [List.length_set]
    exact h7
   ·rcases List.mem_or_eq_of_mem_set hu with hu|rfl
    ·exact hc.ok u hu
    ·exact hv
  ·cases hj
 ·rw [if_neg hjk] at hj
  exact (hr.cells j c' b' hj hb').step hs (by simp) (by simp;omega)
end
end
end Go.Proofs.Ytadffbgbndibpaa
