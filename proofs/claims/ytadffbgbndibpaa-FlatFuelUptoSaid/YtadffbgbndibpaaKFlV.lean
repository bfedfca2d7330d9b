/- FlV: lemmas and walks of the claim. -/
import Derived.Test.YtadffbgbndibpaaKFlU
import Derived.Laws.ResultCell
import Derived.Laws.Rows
set_option linter.unusedVariables false
set_option linter.unusedSimpArgs false
set_option maxHeartbeats 16000000
set_option maxRecDepth 100000
namespace Go.Proofs.Ytadffbgbndibpaa
open Go Go.RowKit
open Go.Maps (Keyed int_keyed keyOf_int_mk)
theorem last_any (w:World) (b o X:Nat) (A:Option Addr) (n c:Nat) (xs:List Int) (x:Int) (h:w.cell? ⟨b,o,none⟩=some (.slice A n c)) (hn:xs.length=n) (hA:∀ i v,xs[i]? =some v→∃ g,A=some ⟨g,0,none⟩∧w.cell? ⟨g,i,none⟩=some (.int .i64 v)) (hx:w.cell? ⟨X,0,none⟩=some (.int .i64 x)) (hle:n≤1000000) :
 Calls Try.prog 42 #[.pointer (some ⟨b,o,none⟩), .func (.func 43) #[] #[.pointer (some ⟨X,0,none⟩)]] w fun e w'=>∃ v,e= .returned (.tuple #[.int .i64 v, .bool (decide (x ∈ xs))])∧w'=w:=by
 have HA:=Hd.mk hA
 have HN:=Hd.mk hn
 have ew:IntKind.i64.wrap ((n:Int)-1)=(n:Int)-1:=IntWalk.i64_in _ (by omega)
 obtain ⟨z,hz⟩:∃ z,decide (x ∈ xs)=z:=⟨_,rfl⟩
 rw [hz]
 have HZ:=Hd.mk hz
 clear hA hn hz
 go_enter Try.func42,Try.ntmps42
 go_wp2
 go_loopw [6] (fun vi wr=>∃ k:Nat,vi= .int .i64 ((k:Int)-1)∧k≤n∧(∀ i v,k≤i→xs[i]? =some v→v≠x)∧wr=w) (fun v _=>(intOf v+1).toNat)
 case atStart=>exact ⟨n,rfl,by omega,fun i v hi hv=>by have:=(List.getElem?_eq_some_iff.1 hv).1;have:=HN.out;omega,rfl⟩
 case round =>
  obtain ⟨k,rfl,hk,hno,rfl⟩:=hrel
  have HNO:=Hd.mk hno
  clear hno
  cases k with
  |zero =>
   have hm:¬x ∈ xs:=fun hm=>by
    obtain ⟨i,hi⟩:=List.getElem?_of_mem hm
    exact HNO.out i x (by omega) hi rfl
   have hzz:z=false:=by rw [←HZ.out];simpa using hm
   subst hzz
   clear hm
   go_wp2
   go_ret2
   exact ⟨0,rfl,rfl⟩
  |succ k =>
   have hlt:k<xs.length:=by have:=HN.out;omega
   obtain ⟨g,hAg,hcell⟩:=HA.out k _ (List.getElem?_eq_getElem hlt)
   have HGE:=Hd.mk (List.getElem?_eq_getElem hlt)
   generalize xs[k]=y at *
   subst hAg
   have e1:(((k+1:Nat):Int)-1)=(k:Int):=by omega
   have hk0:(0:Int)≤k:=by omega
   have hk1:(k:Int)<n:=by omega
   have ew2:IntKind.i64.wrap ((k:Int)-1)=(k:Int)-1:=IntWalk.i64_in _ (by omega)
   rw [e1]
   clear e1
   by_cases hyx:y=x
   ·subst hyx
    have hzz:z=true:=by rw [←HZ.out];simpa using List.mem_of_getElem? HGE.out
    subst hzz
    go_wp2
    go_ret2
    exact ⟨_,rfl,rfl⟩
   ·have hyb:(y == x)=false:=by simpa using hyx
    go_wp2
    go_roundw
    case rel =>
     refine ⟨k,rfl,by omega,fun i v hi hv=>?_,?_⟩
     ·by_cases hik:i=k
      ·subst hik
       rw [HGE.out] at hv
       cases hv
       exact hyx
      ·exact HNO.out i v (by omega) hv
     ·trivial
    case measure=>simp [intOf]
theorem MapR.look {w:World} {ρ:Ghost} {b:Nat} {l:List (Int × Ty)} (h:MapR w ρ b l) (x:Int) (hx:I64 x) :
 ∃ t cs,(∀ W:World,W.heap[b]? =w.heap[b]? →(Instr.lookup 51 (.map (some b)) (.int .i64 x) false).run Try.prog W= .ok (.agg cs.toArray) W) ∧
  (∀ W:World,W.heap[b]? =w.heap[b]? →(Instr.lookup 51 (.map (some b)) (.int .i64 x) true).run Try.prog W= .ok (.tuple #[.agg cs.toArray, .bool (lookT l x).isSome]) W)∧TyE w ρ t cs∧(∀ t',lookT l x=some t'→t'=t):=by
 obtain ⟨D,h1,h2⟩:=h.out
 have hkey:=keyOf_int_mk Try.underlying3 (i64_wf hx)
 have hd:∀ W:World,W.heap[b]? =w.heap[b]? →W.ownsMap Try.prog 3 tyHeld b l.length D:=fun W hW=>ownsMap_of_heap h1 hW
 have h3:=h2 x
 have key:∃ t cs,D.atKey (.int .i64 x) (.held (.agg zeroTy.toArray))= .held (.agg cs.toArray)∧Maps.has D (.int .i64 x)=(lookT l x).isSome∧TyE w ρ t cs∧(∀ t',lookT l x=some t'→t'=t):=by
  cases hl:lookT l x with
  |none =>
   rw [hl] at h3
   exact ⟨intT,zeroTy,Maps.atKey_of_not_has h3 _,h3,⟨1,zeroTy_any w ρ⟩,fun _ h=>by cases h⟩
  |some t =>
   rw [hl] at h3
   obtain ⟨cs,h4,h5,h6⟩:=h3
   exact ⟨t,cs,h5 _,h4,h6,fun _ h=>by cases h;rfl⟩
 obtain ⟨t,cs,k1,k2,k3,k4⟩:=key
 refine ⟨t,cs,fun W hW=>?_,fun W hW=>?_,k3,k4⟩
 ·obtain ⟨v,ps,hr,hv⟩:=(hd W hW).lookup intKeyed mapTy (zeroTy_run _) (zd:= .held (.agg zeroTy.toArray)) (zp:=[]) rfl hkey
  have:v= .agg cs.toArray:=by
   rw [k1] at hv
   simp only [tyHeld,Option.some.injEq,Prod.mk.injEq,DataW.held.injEq] at hv
   exact hv.1
  rw [hr,this]
 ·obtain ⟨v,ps,hr,hv⟩:=(hd W hW).look_ok intKeyed mapTy (zeroTy_run _) (zd:= .held (.agg zeroTy.toArray)) (zp:=[]) rfl hkey
  have:v= .agg cs.toArray:=by
   rw [k1] at hv
   simp only [tyHeld,Option.some.injEq,Prod.mk.injEq,DataW.held.injEq] at hv
   exact hv.1
  rw [hr,this,k2]
theorem results_cell2 {fn:Func} {p u:Tmp} {ty:TypeId} (h:fn.results= #[.cell p ty, .tmp u]) (tmps:Array Value) (w:World) (g:Nat) (cs:List Value) {fields:_} (hp:tmps.getD p undef= .pointer (some ⟨g,0,none⟩)) (hg:Blk w g ty cs) (hu:Try.prog.underlying ty=some (.struct fields)) (hi:(Try.prog.info? ty).map (·.size)=some cs.length) :
 (results fn tmps).run Try.prog w= .ok (.tuple #[.agg cs.toArray,tmps.getD u undef]) w:=by
 rw [results_cell_tmp h,hp]
 simp only [asAddr,Sem.run_pure,Result.andThen_ok]
 rw [run_loadVar_row w g ty ty cs.toArray (0,0) _ hg hu rfl (by rw [List.size_toArray];exact hi)]
 rfl
theorem CkR.seenAt {F:Ty→Prop} {w:World} {ρ:Ghost} {C:Nat} {hd:List Value} {mb:Nat} {c:CS} {big:Bool} {A:Option Addr} {n cp:Nat} (h:OwnSl w ρ (31,1) 3 1 (.slice A n cp) n (c.seen.map (.int .i64 ·))) :
 ∀ i v,c.seen[i]? =some v→∃ g,A=some ⟨g,0,none⟩∧g<w.heap.size∧w.cell? ⟨g,i,none⟩=some (.int .i64 v):=by
 intro i v hi
 have hlt:=(List.getElem?_eq_some_iff.1 hi).1
 have hlen:=h.len
 rw [List.length_map] at hlen
 obtain ⟨g,c',h0,_,_,_,h4,_,h6⟩:=h.some (by omega)
 cases h0
 refine ⟨g,rfl,h6,?_⟩
 rw [h4 i (by omega),List.getElem?_map,hi]
 rfl
theorem of_any (F:Ty→Prop) (w:World) (ρ:Ghost) (C:Nat) (hd:List Value) (mb:Nat) (c:CS) (bg:Bool) (x:Int) (hC:CkR F w ρ C hd mb c bg) (hx:I64 x) :
 Calls Try.prog 35 #[.pointer (some ⟨C,0,none⟩), .int .i64 x] w fun e w'=>∃ t va v1 v2,e= .returned (.tuple #[.agg (tyCells t va v1 v2).toArray, .bool (c.of x).isSome])∧TyE w' ρ t (tyCells t va v1 v2)∧(∀ t',c.of x=some t'→t'=t∧F t)∧Below w.heap.size w w':=by
 obtain ⟨A,cp,h23,h24,h25,hO,hcp,hfz,hB⟩:=hC.form
 have hseen:=CkR.seenAt (F:=F) (hd:=hd) (C:=C) (mb:=mb) (big:=bg) hO
 have hsm:=hC.ok.small
 have hle:=hC.ok.le
 have HC:=Hd.mk hC
 have HSE:=Hd.mk hseen
 have HX:=Hd.mk hx
 have hmf:∀ (fn:Fn) (first cap:Array Value) (w:World),(Instr.makeFunc fn first cap).run Try.prog w= .ok (.func fn first cap) w:=fun _ _ _ _=>rfl
 clear hC hO hcp hB hseen hx
 have hlt:=HC.out.lt
 go_enter Try.func35,Try.ntmps35
 go_wp2_with fail
 have HS1:=Hd.mk ((Step.refl (fun _=>False) w ρ).alloc (.cells #[.int .i64 x] 3))
 have HS2:=Hd.mk (HS1.out.alloc (.cells #[.int .i64 0, .int .i64 0, .string { data:= #[] }, .slice none 0 0, .int .i64 0, .slice none 0 0, .slice none 0 0] 43))
 have XB0:=Hd.mk ((Blk.new w [.int .i64 x] 3).alloc (.cells #[.int .i64 0, .int .i64 0, .string { data:= #[] }, .slice none 0 0, .int .i64 0, .slice none 0 0, .slice none 0 0] 43))
 have XT0:=Hd.mk (Blk.new (w.alloc (.cells #[.int .i64 x] 3)) zeroTy 43)
 have hsz:(w.alloc (.cells #[.int .i64 x] 3)).heap.size=w.heap.size+1:=by simp
 rw [hsz] at XT0
 clear hsz HS1
 generalize hX1:w.heap.size+1=X1 at *
 generalize hX0:w.heap.size=X0 at *
 generalize hW2:(w.alloc (.cells #[.int .i64 x] 3)).alloc (.cells #[.int .i64 0, .int .i64 0, .string { data:= #[] }, .slice none 0 0, .int .i64 0, .slice none 0 0, .slice none 0 0] 43)=W2 at *
 have XB:Hd (Blk W2 X0 3 [.int .i64 x]):=⟨hW2 ▸ XB0.out⟩
 have XT:Hd (Blk W2 X1 43 zeroTy):=⟨hW2 ▸ XT0.out⟩
 have HX10:Hd (X1=X0+1∧w.heap.size=X0):=⟨by omega,hX0⟩
 clear XB0 XT0 hW2 hX1
 have HC2:=Hd.mk (HC.out.step HS2.out (fun _ _ h=>h))
 obtain ⟨A',cp',g23,g24,g25,hO2,hcp2,hfz2,hB2⟩:=HC2.out.form
 have hseen2:=CkR.seenAt (F:=F) (hd:=hd) (C:=C) (mb:=mb) (big:=bg) hO2
 have hAA:A'=A∧cp'=cp:=by
  have h5:=HS2.out.cell (a:=⟨C,23,none⟩) (v:= .slice A c.seen.length cp)
  have h6:=(World.cell?_of_block (a:=⟨C,23,none⟩) (HS2.out.block C (by omega) (fun _ _ h=>h))).trans h23
  rw [g23] at h6
  simp only [Option.some.injEq,Value.slice.injEq,true_and] at h6
  exact h6
 obtain ⟨rfl,rfl⟩:=hAA
 have hlast:=last_any W2 C 23 X0 A' c.seen.length cp' c.seen x g23 rfl (fun i v hi=>by
  obtain ⟨g,e1,_,e2⟩:=hseen2 i v hi
  exact ⟨g,e1,e2⟩) (XB.out.cell (i:=0) rfl) (by omega)
 obtain ⟨z,hz⟩:∃ z,decide (x ∈ c.seen)=z:=⟨_,rfl⟩
 rw [hz] at hlast
 have HL:=Hd.mk hlast
 have HZ:=Hd.mk hz
 clear hlast hz hO2 hseen2 hcp2 hB2
 refine HL.out.mono ?_
 rintro e W3 ⟨y,rfl,rfl⟩
 obtain ⟨t,cs,hl1,hl2,hT,hlk⟩:=HC.out.map.look x HX.out
 have hmb:=HC.out.map.lt
 obtain ⟨nt,hT2⟩:=hT
 obtain ⟨m0,va,v1,v2,hnm,hcs,hi1,hi2,hi3,hi4,hy1,hy2,hy3⟩:=hT2.shape
 subst hcs
 obtain ⟨B0,k0,rfl,_,_⟩:=SlR.form hy1
 obtain ⟨B1,k1,rfl,_,_⟩:=SlR.form hy2
 obtain ⟨B2,k2,rfl,_,_⟩:=SlR.form hy3
 have hx0:W3.cell? ⟨X0,0,none⟩=some (.int .i64 x):=XB.out.cell (i:=0) rfl
 have HT2:=Hd.mk hT2
 have HLK:=Hd.mk hlk
 clear hT2 hlk hl2 hy1 hy2 hy3 hi1 hi2 hi3 hi4 hnm HL h23 h24 h25 hfz g23 g25
 go_wp2
 have hl0:(Instr.lookup 51 (.map (some mb)) (.int .i64 x) false).run Try.prog W3.drew= .ok (.agg #[.int .i64 t.kind, .int .i64 t.n, .string t.name, .slice B0 t.args.length k0, .int .i64 t.region, .slice B1 t.eff.regs.length k1, .slice B2 t.eff.vars.length k2]) W3.drew:=hl1 W3.drew (HS2.out.block mb hmb (fun _ _ h=>h))
 have y0:W3.cell? ⟨X1,0,none⟩=some (.int .i64 0):=XT.out.cell (i:=0) rfl
 have y1:W3.cell? ⟨X1,1,none⟩=some (.int .i64 0):=XT.out.cell (i:=1) rfl
 have y2:W3.cell? ⟨X1,2,none⟩=some (.string ⟨#[]⟩):=XT.out.cell (i:=2) rfl
 have y3:W3.cell? ⟨X1,3,none⟩=some (.slice none 0 0):=XT.out.cell (i:=3) rfl
 have y4:W3.cell? ⟨X1,4,none⟩=some (.int .i64 0):=XT.out.cell (i:=4) rfl
 have y5:W3.cell? ⟨X1,5,none⟩=some (.slice none 0 0):=XT.out.cell (i:=5) rfl
 have y6:W3.cell? ⟨X1,6,none⟩=some (.slice none 0 0):=XT.out.cell (i:=6) rfl
 have f0:W3.frozen? ⟨X1,0,none⟩=false:=XT.out.free 0
 have f1:W3.frozen? ⟨X1,1,none⟩=false:=XT.out.free 1
 have f2:W3.frozen? ⟨X1,2,none⟩=false:=XT.out.free 2
 have f3:W3.frozen? ⟨X1,3,none⟩=false:=XT.out.free 3
 have f4:W3.frozen? ⟨X1,4,none⟩=false:=XT.out.free 4
 have f5:W3.frozen? ⟨X1,5,none⟩=false:=XT.out.free 5
 have f6:W3.frozen? ⟨X1,6,none⟩=false:=XT.out.free 6
 clear hl1 hmf hlt
 go_region
 have xs:=((((((XT.out.setCell 0 (.int .i64 t.kind)).setCell 1 (.int .i64 t.n)).setCell 2 (.string t.name)).setCell 3 (.slice B0 t.args.length k0)).setCell 4 (.int .i64 t.region)).setCell 5 (.slice B1 t.eff.regs.length k1)).setCell 6 (.slice B2 t.eff.vars.length k2)
 have hge:w.heap.size≤X1:=by have:=HX10.out;omega
 have hs4:=(((((((HS2.out.setCell_new (a:=⟨X1,0,none⟩) hge (.int .i64 t.kind)).setCell_new (a:=⟨X1,1,none⟩) hge (.int .i64 t.n)).setCell_new (a:=⟨X1,2,none⟩) hge (.string t.name)).setCell_new (a:=⟨X1,3,none⟩) hge (.slice B0 t.args.length k0)).setCell_new (a:=⟨X1,4,none⟩) hge (.int .i64 t.region)).setCell_new (a:=⟨X1,5,none⟩) hge (.slice B1 t.eff.regs.length k1)).setCell_new (a:=⟨X1,6,none⟩) hge (.slice B2 t.eff.vars.length k2)).drew
 have xs4:=xs.drew
 clear hl0 xs
 generalize World.drew _=W4 at hs4 xs4 ⊢
 have HS4:=Hd.mk hs4
 have XS4:Hd (Blk W4 X1 43 (tyCells t (.slice B0 t.args.length k0) (.slice B1 t.eff.regs.length k1) (.slice B2 t.eff.vars.length k2))):=⟨xs4⟩
 clear xs4 hs4 y0 y1 y2 y3 y4 y5 y6 f0 f1 f2 f3 f4 f5 f6 hx0
 go_wp2
 refine bodyPost_ret (results_cell2 rfl _ _ X1 _ rfl XS4.out Try.underlying43 rfl) rfl ?_
 have hof:(c.of x).isSome=z∧∀ t',c.of x=some t'→t'=t∧F t:=by
  rw [←HZ.out]
  unfold CS.of
  by_cases hm:x ∈ c.seen
  ·rw [if_pos hm]
   refine ⟨?_,fun t' ht=>?_⟩
   ·rw [HC.out.ok.sub x hm]
    simpa using hm
   ·have h1:=HLK.out t' ht
    subst h1
    refine ⟨rfl,?_⟩
    unfold lookT at ht
    obtain ⟨q,hq,hq2⟩:=Option.map_eq_some_iff.1 ht
    rw [←hq2]
    exact HC.out.ok.fm q (List.mem_of_find?_eq_some hq)
  ·rw [if_neg hm]
   exact ⟨by simp [hm],fun _ h=>by cases h⟩
 exact ⟨t,_,_,_,by rw [hof.1];rfl,⟨nt,TyR.step HS4.out _ HT2.out⟩,hof.2,HS4.out.toBelow⟩
end Go.Proofs.Ytadffbgbndibpaa
