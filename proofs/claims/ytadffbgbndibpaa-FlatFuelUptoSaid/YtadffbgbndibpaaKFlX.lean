/- FlW, FlX: lemmas and walks of the claim. -/
import Derived.Test.YtadffbgbndibpaaKFlV
import Derived.StillTailTactics
set_option linter.unusedVariables false
set_option linter.unusedSimpArgs false
set_option maxHeartbeats 16000000
set_option maxRecDepth 100000
namespace Go.Proofs.Ytadffbgbndibpaa
section
open Go Go.RowKit
open Go.Maps (Keyed int_keyed keyOf_int_mk)
theorem CS.bind_eq {c:CS} {v:Int} {t:Ty} (h1:lookT c.bound v=none) (h2:0≤v) (h3:v<16384):c.bind v t=some ⟨(v,t) :: c.bound,c.seen++[v]⟩:=by
 unfold CS.bind
 rw [if_neg]
 rintro (h|h|h)
 ·rw [h1] at h;cases h
 ·omega
 ·omega
theorem bind_any (F:Ty→Prop) (w:World) (ρ:Ghost) (C:Nat) (hd:List Value) (mb:Nat) (c:CS) (bg:Bool) (v:Int) (t:Ty) (B0 B1 B2:Option Addr) (k0 k1 k2:Nat) (hC:CkR F w ρ C hd mb c bg) (hv:I64 v) (hT:TyE w ρ t (tyCells t (.slice B0 t.args.length k0) (.slice B1 t.eff.regs.length k1) (.slice B2 t.eff.vars.length k2))) (hF:F t) :
 Calls Try.prog 26 #[.pointer (some ⟨C,0,none⟩), .int .i64 v, .agg #[.int .i64 t.kind, .int .i64 t.n, .string t.name, .slice B0 t.args.length k0, .int .i64 t.region, .slice B1 t.eff.regs.length k1, .slice B2 t.eff.vars.length k2]] w fun e w' =>
  ∃ ρ',e= .returned (.bool (c.bind v t).isSome)∧CkR F w' ρ' C hd mb ((c.bind v t).getD c) bg∧Step CkT w ρ w' ρ':=by
 obtain ⟨A,cp,h23,h24,h25,hO,hcp,hfz,hB⟩:=hC.form
 obtain ⟨tl,cl,hl1,hl2,hTl,hlk⟩:=hC.map.look v hv
 obtain ⟨ntl,hTl⟩:=hTl
 obtain ⟨ml,ua,u1,u2,_,hcs,_,_,_,_,hy1,hy2,hy3⟩:=hTl.shape
 obtain ⟨E0,q0,rfl,_,_⟩:=SlR.form hy1
 obtain ⟨E1,q1,rfl,_,_⟩:=SlR.form hy2
 obtain ⟨E2,q2,rfl,_,_⟩:=SlR.form hy3
 have hsm:=hC.ok.small
 have hle:=hC.ok.le
 have hlt:=hC.lt
 have hmb:=hC.map.lt
 have HC:=Hd.mk hC
 have HT:=Hd.mk hT
 have HFT:=Hd.mk hF
 have HV:=Hd.mk hv
 have HS1:=Hd.mk ((Step.refl (fun _=>False) w ρ).alloc (.cells #[.int .i64 t.kind, .int .i64 t.n, .string t.name, .slice B0 t.args.length k0, .int .i64 t.region, .slice B1 t.eff.regs.length k1, .slice B2 t.eff.vars.length k2] 43))
 have XB:Hd (Blk (w.alloc (.cells #[.int .i64 t.kind, .int .i64 t.n, .string t.name, .slice B0 t.args.length k0, .int .i64 t.region, .slice B1 t.eff.regs.length k1, .slice B2 t.eff.vars.length k2] 43)) w.heap.size 43 (tyCells t (.slice B0 t.args.length k0) (.slice B1 t.eff.regs.length k1) (.slice B2 t.eff.vars.length k2))):=Hd.mk (Blk.new w (tyCells t (.slice B0 t.args.length k0) (.slice B1 t.eff.regs.length k1) (.slice B2 t.eff.vars.length k2)) 43)
 have hl0:=hl2 (w.alloc (.cells #[.int .i64 t.kind, .int .i64 t.n, .string t.name, .slice B0 t.args.length k0, .int .i64 t.region, .slice B1 t.eff.regs.length k1, .slice B2 t.eff.vars.length k2] 43)) (HS1.out.block mb hmb (fun _ _ h=>h))
 have HW1:Hd ((w.alloc (.cells #[.int .i64 t.kind, .int .i64 t.n, .string t.name, .slice B0 t.args.length k0, .int .i64 t.region, .slice B1 t.eff.regs.length k1, .slice B2 t.eff.vars.length k2] 43)).heap.size=w.heap.size+1):=⟨by simp⟩
 obtain ⟨z,hz⟩:∃ z,(lookT c.bound v).isSome=z:=⟨_,rfl⟩
 rw [hz] at hl0
 have HZ:=Hd.mk hz
 have hcll:cl.length=7:=by rw [hcs];rfl
 have hone:cl.toArray.all (·.oneCell')=true:=by rw [hcs];simp [Value.oneCell']
 have hinT:(Try.prog.info? 43).map (·.size)=some 7:=by kernel_rfl
 have HSZ:Hd (cl.toArray.size=7):=⟨by rw [List.size_toArray,hcll]⟩
 have HIN:Hd ((Try.prog.info? 43).map (·.size)=some cl.toArray.size):=⟨by rw [HSZ.out];exact hinT⟩
 have HON:=Hd.mk hone
 have HO:=Hd.mk hO
 have HLK:=Hd.mk hlk
 clear hz hC hT hF hv hTl hy1 hy2 hy3 hO hB hcp hlk hl1 hl2 hcs hcll hone hinT
 go_enter Try.func26,Try.ntmps26
 go_wp2_with (refine wpList_store_newV rfl 43 _ _ rfl _ cl.toArray (by rw [HW1.out];rfl) rfl HIN.out (by exact (Eq.trans rfl HSZ.out.symm)) HON.out ?_)
 refine ⟨?_⟩
 have HS2:=Hd.mk (HS1.out.alloc (.cells cl.toArray 43))
 have XB2:=Hd.mk (XB.out.alloc (.cells cl.toArray 43))
 clear XB HS1 hl0 h23 h24 h25 hfz HW1 HO HIN HON HSZ
 generalize hX0:w.heap.size=X0 at *
 generalize World.alloc _ (.cells cl.toArray 43)=W2 at *
 have HC2:=Hd.mk (HC.out.step HS2.out (fun _ _ h=>h))
 obtain ⟨A2,cp2,h23,h24,h25,hO,hcp,hfz,hB⟩:=HC2.out.form
 have HT2:=Hd.mk (HT.out.step HS2.out)
 have HX0:=Hd.mk hX0
 have HBB:=Hd.mk hB
 have HOO:=Hd.mk hO
 clear HLK HT hO hB hX0
 cases z with
 |true =>
  have hbn:c.bind v t=none:=by
   unfold CS.bind
   rw [if_pos (.inl HZ.out)]
  have HBN:=Hd.mk hbn
  clear hbn
  go_wp2
  go_ret
  have hbn:=HBN.out
  first|refine ⟨ρ,?_,?_,?_⟩|refine ⟨?_,ρ,?_,?_⟩
  ·rw [hbn];rfl
  ·rw [hbn];exact HC2.out
  ·exact HS2.out.mono (fun _ h=>h.elim)
 |false =>
  have hln:lookT c.bound v=none:=by
   have:=HZ.out
   cases h:lookT c.bound v with
   |none=>rfl
   |some _=>rw [h] at this;cases this
  have HLN:=Hd.mk hln
  clear hln
  by_cases hlo:v<0
  ·have hbn:c.bind v t=none:=by
    unfold CS.bind
    rw [if_pos (.inr (.inl hlo))]
   have HBN:=Hd.mk hbn
   clear hbn
   go_wp2
   go_ret
   have hbn:=HBN.out
   first|refine ⟨ρ,?_,?_,?_⟩|refine ⟨?_,ρ,?_,?_⟩
   ·rw [hbn];rfl
   ·rw [hbn];exact HC2.out
   ·exact HS2.out.mono (fun _ h=>h.elim)
  ·by_cases hhi:16384≤v
   ·have hbn:c.bind v t=none:=by
     unfold CS.bind
     rw [if_pos (.inr (.inr hhi))]
    have HBN:=Hd.mk hbn
    clear hbn
    go_wp2
    go_ret
    have hbn:=HBN.out
    first|refine ⟨ρ,?_,?_,?_⟩|refine ⟨?_,ρ,?_,?_⟩
    ·rw [hbn];rfl
    ·rw [hbn];exact HC2.out
    ·exact HS2.out.mono (fun _ h=>h.elim)
   ·have HBS:=Hd.mk (CS.bind_eq (t:=t) HLN.out (by omega) (by omega))
    have HOK:=Hd.mk (HC.out.ok.bind HFT.out HBS.out).1
    obtain ⟨D,hD1,hD2⟩:=HC2.out.map.out
    have HD1:Hd (W2.drew.ownsMap Try.prog 3 tyHeld mb c.bound.length D):=⟨ownsMap_of_heap hD1 rfl⟩
    have HDD:Hd (∀ x,match lookT c.bound x with
     |none=>Maps.has D (.int .i64 x)=false
     |some t=>∃ cs,Maps.has D (.int .i64 x)=true∧(∀ z,D.atKey (.int .i64 x) z= .held (.agg cs.toArray))∧TyE W2.drew ρ t cs):=⟨fun x=>by
     have h3:=hD2 x
     cases hl:lookT c.bound x with
     |none=>rw [hl] at h3;exact h3
     |some t =>
      rw [hl] at h3
      obtain ⟨cs,h4,h5,h6⟩:=h3
      exact ⟨cs,h4,h5,h6.step ((Step.refl (fun _=>False) W2 ρ).drew)⟩⟩
    have HB:=Hd.mk HBB.out
    have HO2:=Hd.mk HOO.out
    have hkey:=keyOf_int_mk Try.underlying3 (i64_wf HV.out)
    have HKEY:=Hd.mk hkey
    have y0:W2.cell? ⟨X0,0,none⟩=some (.int .i64 t.kind):=XB2.out.cell (i:=0) rfl
    have y1:W2.cell? ⟨X0,1,none⟩=some (.int .i64 t.n):=XB2.out.cell (i:=1) rfl
    have y2:W2.cell? ⟨X0,2,none⟩=some (.string t.name):=XB2.out.cell (i:=2) rfl
    have y3:W2.cell? ⟨X0,3,none⟩=some (.slice B0 t.args.length k0):=XB2.out.cell (i:=3) rfl
    have y4:W2.cell? ⟨X0,4,none⟩=some (.int .i64 t.region):=XB2.out.cell (i:=4) rfl
    have y5:W2.cell? ⟨X0,5,none⟩=some (.slice B1 t.eff.regs.length k1):=XB2.out.cell (i:=5) rfl
    have y6:W2.cell? ⟨X0,6,none⟩=some (.slice B2 t.eff.vars.length k2):=XB2.out.cell (i:=6) rfl
    have hll:=hsm
    clear hD1 hD2 hkey
    go_wp2_with fail
    go_still_tail 6,(by kernel_rfl)
    change wpList _ _ _ _ _ W2.drew
    refine wpList_mapUpdate_own _ rfl _ _ _ 51 rfl 3 43 intKeyed mapTy tyHeld mb c.bound.length D rfl HD1.out (by unfold maxLen;omega) _ _ _ rfl rfl HKEY.out (.held (.agg (tyCells t (.slice B0 t.args.length k0) (.slice B1 t.eff.regs.length k1) (.slice B2 t.eff.vars.length k2)).toArray)) [] rfl ?_
    intro W3 hown hgrow
    have hm3:=(HC2.out.map.step ((Step.refl (fun _=>False) W2 ρ).drew) (fun h=>h)).put HDD.out HD1.out (HT2.out.step ((Step.refl (fun _=>False) W2 ρ).drew)) hown hgrow
    have hs3:=Step.of_grown hgrow HC2.out.map.tag
    have hs3':Step (· =(31,2)) W2 ρ W3 ρ:=((Step.refl (· =(31,2)) W2 ρ).drew).trans hs3
    have hc3:=hs3'.blk' HB.out HC2.out.tag (by simp)
    have ho3:=HO2.out.step hs3' (by simp)
    have HM3:=Hd.mk hm3
    have HS3:=Hd.mk hs3'
    have HB3:=Hd.mk hc3
    have HO3:=Hd.mk ho3
    have hlC:C<W3.heap.size:=hc3.lt
    have g23:W3.cell? ⟨C,23,none⟩=some (.slice A2 c.seen.length cp2):=by
     refine hc3.cell ?_
     rw [List.getElem?_append_right (by rw [HC2.out.hdl];omega),HC2.out.hdl];rfl
    have gf23:W3.frozen? ⟨C,23,none⟩=false:=hc3.free 23
    have hpush:=push_any W3 ρ C 23 (31,0) (31,1) HC2.out.tag (by simp) hlC (.slice A2 c.seen.length cp2) c.seen.length (c.seen.map (.int .i64 ·)) v g23 gf23 ho3 (by omega)
    have HP:=Hd.mk hpush
    clear hpush hm3 hs3 hs3' hc3 ho3 hown hgrow y0 y1 y2 y3 y4 y5 y6 h23 h24 h25 g23 gf23 hfz
    go_wp2_with fail
    refine HP.out.mono ?_
    rintro e W5 ⟨rfl,g,c5,W4,ρ4,hO4,hS4,rfl⟩
    have hb4:=hS4.blk' HB3.out HC2.out.tag (by simp)
    have hb5:=CkR.seen_put HC2.out.hdl (sv':= .slice (some ⟨g,0,none⟩) (c.seen.length+1) c5) hb4
    have ht4:ρ4 C=some (31,0):=hS4.tag HB3.out.lt HC2.out.tag
    have hs5:Step (· =(31,0)) W4 ρ4 (W4.setCell ⟨C,23,none⟩ (.slice (some ⟨g,0,none⟩) (c.seen.length+1) c5)) ρ4:=(Step.refl (fun x=>x=(31,0)) W4 ρ4).setCell (a:=⟨C,23,none⟩) ht4 rfl _
    have ho5:=hO4.step hs5 (by simp)
    have hm5:=(HM3.out.step hS4 (by simp)).step hs5 (by simp)
    have hck:CkR F (W4.setCell ⟨C,23,none⟩ (.slice (some ⟨g,0,none⟩) (c.seen.length+1) c5)) ρ4 C hd mb ⟨(v,t) :: c.bound,c.seen++[v]⟩ bg:=by
     refine ⟨⟨_,hb5,?_⟩,HC2.out.hdl,ht4,hm5,HOK.out⟩
     show OwnSl _ _ _ _ _ _ (c.seen++[v]).length ((c.seen++[v]).map _)
     rw [List.length_append,List.map_append]
     exact ho5
    have hst:Step CkT w ρ (W4.setCell ⟨C,23,none⟩ (.slice (some ⟨g,0,none⟩) (c.seen.length+1) c5)) ρ4:=(((HS2.out.mono (fun _ h=>h.elim)).trans (HS3.out.mono (fun _ h=> .inr (.inr h)))).trans (hS4.mono (fun _ h=> .inr (.inl h)))).trans (hs5.mono (fun _ h=> .inl h))
    have HCK:=Hd.mk hck
    have HST:=Hd.mk hst
    clear hb4 hb5 ht4 hs5 ho5 hm5 hck hst hO4 hS4 HP
    generalize W4.setCell ⟨C,23,none⟩ (.slice (some ⟨g,0,none⟩) (c.seen.length+1) c5)=W6 at *
    go_wp2
    go_ret
    have hbn:=HBS.out
    first|refine ⟨ρ4,?_,?_,?_⟩|refine ⟨?_,ρ4,?_,?_⟩
    ·rw [hbn];rfl
    ·rw [hbn];exact HCK.out
    ·exact HST.out
end
section
open Go Go.RowKit
structure CkS (w:World) (ρ:Ghost) (p:Pg) (ty:Int) (nd:Nat) (hd:List Value):Prop where
 out:∃ A1 c1 A2 c2 A3 c3,hd[0]? =some (.slice A1 p.datas.length c1)∧hd[1]? =some (.slice A2 p.exns.length c2)∧hd[2]? =some (.slice A3 p.funs.length c3)∧hd[6]? =some (.int .i64 ty) ∧
  DatsR w ρ nd (.slice A1 p.datas.length c1) p.datas∧FusR w ρ nd (.slice A3 p.funs.length c3) p.funs
theorem CkS.step {T:Tag→Prop} {w w':World} {ρ ρ':Ghost} {p:Pg} {ty:Int} {nd:Nat} {hd:List Value} (h:CkS w ρ p ty nd hd) (hs:Step T w ρ w' ρ'):CkS w' ρ' p ty nd hd:=by
 obtain ⟨A1,c1,A2,c2,A3,c3,h1,h2,h3,h4,h5,h6⟩:=h.out
 exact ⟨A1,c1,A2,c2,A3,c3,h1,h2,h3,h4,h5.step hs,h6.step hs⟩
structure HdP (p:Pg):Prop where
 cons:∀ d,d ∈ p.datas→∀ c,c ∈ d.cons→formedL p.datas d.vars.length c.fields=true
 funs:∀ f,f ∈ p.funs→formedL p.datas f.types f.params=true∧formedL p.datas f.types [f.result]=true
section
variable {ds:List Dat} {vars:Int} {t:Ty}
include ds vars t
theorem one_formedL (h:formed1 ds vars t=true):formedL ds vars [t]=true:=by rw [formedL,formedL,h];rfl
theorem formed1_data (h:formed1 ds vars t=true) (h4:t.kind=4):∃ (n:Nat) (d:Dat),t.n=n∧ds[n]? =some d∧t.args.length=d.vars.length∧n<ds.length:=by
 rw [formed1_eq,h4] at h
 unfold manyOf at h
 simp only [show ¬((4:Int)=0∨(4:Int)=1∨(4:Int)=2) by omega,show ¬((4:Int)=3) by omega,if_false,if_true] at h
 by_cases hc:t.n<0∨(ds.length:Int)≤t.n
 ·rw [if_pos hc] at h
  cases h
 ·rw [if_neg hc] at h
  obtain ⟨n,hn⟩:=Int.eq_ofNat_of_zero_le (show 0≤t.n by omega)
  have hlt:n<ds.length:=by omega
  have hg:=List.getElem?_eq_getElem hlt
  have e1:t.n.toNat=n:=by omega
  rw [e1,hg] at h
  simp only [Bool.and_eq_true,decide_eq_true_eq,Option.elim] at h
  exact ⟨n,ds[n],hn,hg,of_decide_eq_true h.1.1.1.1.2,hlt⟩
theorem formed1_many {k:Int} {m:Nat} (h:formed1 ds vars t=true) (hk:t.kind=k) (hm:∀ n len,manyOf ds k n len vars=some m):t.args.length=m:=by
 rw [formed1_eq,hk,hm] at h
 simp only [Bool.and_eq_true,decide_eq_true_eq] at h
 exact h.1.1.1.1.2
end
theorem results_cell1 {fn:Func} {p:Tmp} {ty:TypeId} (h:fn.results= #[.cell p ty]) (tmps:Array Value) (w:World) (g:Nat) (cs:List Value) {fields:_} (hp:tmps.getD p undef= .pointer (some ⟨g,0,none⟩)) (hg:Blk w g ty cs) (hu:Try.prog.underlying ty=some (.struct fields)) (hi:(Try.prog.info? ty).map (·.size)=some cs.length) :
 (results fn tmps).run Try.prog w= .ok (.agg cs.toArray) w :=
 results_cell_row h tmps w g ty cs.toArray (0,0) _ hp hg hu rfl (by rw [List.size_toArray];exact hi)
theorem TysR.box {w:World} {ρ:Ghost} {n B c:Nat} {l:List Ty} {xs:List Value} (hb:Blk w B 43 xs) (h0:ρ B=none) (h:FlatR 7 (TyR w ρ n) l xs) (hc:c=l.length) (hl:l.length≤1000):TysR w ρ n (.slice (some ⟨B,0,none⟩) l.length c) l:=by
 subst hc
 refine ⟨_,_,rfl,Nat.le_refl _,by unfold maxLen;omega,by omega,fun i x hi=>?_⟩
 obtain ⟨cs,f1,f2,f3⟩:=h.get i x hi
 exact ⟨B,0,cs,rfl,h0,hb.lt,f1,f2,fun j u hj=>by rw [hb.at,Nat.zero_add];exact f3 j u hj⟩
theorem size_alloc (w:World) (o:Obj):(w.alloc o).heap.size=w.heap.size+1:=by simp
theorem Blk.newAt {w:World} {X:Nat} (h:w.heap.size=X) (L:List Value) (T:TypeId):Blk (w.alloc (.cells L.toArray T)) X T L:=h ▸ Blk.new w L T
theorem within_any (w:World) (ρ:Ghost) (n:Nat) (k:Int) (t:Ty) (A0 A1 A2:Option Addr) (c0 c1 c2:Nat) (hk:I64 k) (hfr:Fresh w ρ) (hT:TyR w ρ n t (tyCells t (.slice A0 t.args.length c0) (.slice A1 t.eff.regs.length c1) (.slice A2 t.eff.vars.length c2))) :
 Calls Try.prog 50 #[.int .i64 k, .agg #[.int .i64 t.kind, .int .i64 t.n, .string t.name, .slice A0 t.args.length c0, .int .i64 t.region, .slice A1 t.eff.regs.length c1, .slice A2 t.eff.vars.length c2]] w fun e w' =>
  ∃ X,e= .returned (.agg #[.int .i64 k, .int .i64 0, .string ⟨#[]⟩, .slice (some ⟨X,0,none⟩) 1 1, .int .i64 0, .slice none 0 0, .slice none 0 0])∧Below w.heap.size w w'∧TyR w' ρ (n+1) (kindT k [t]) (tyCells (kindT k [t]) (.slice (some ⟨X,0,none⟩) 1 1) (.slice none 0 0) (.slice none 0 0)):=by
 have HT:=Hd.mk hT
 have HFR:=Hd.mk hfr
 have HK:=Hd.mk hk
 clear hT hfr hk
 go_enter Try.func50,Try.ntmps50
 go_wp2
 generalize hW1:w.alloc (.cells #[.int .i64 t.kind, .int .i64 t.n, .string t.name, .slice A0 t.args.length c0, .int .i64 t.region, .slice A1 t.eff.regs.length c1, .slice A2 t.eff.vars.length c2] 43)=W1
 have hs1:W1.heap.size=w.heap.size+1:=by rw [←hW1];simp
 have hS1:Step (fun _=>False) w ρ W1 ρ:=by rw [←hW1];exact (Step.refl _ w ρ).alloc _
 generalize hW2:W1.alloc (.cells #[.int .i64 k, .int .i64 0, .string { data:= #[] }, .slice (some ⟨w.heap.size+1+1,0,none⟩) 1 1, .int .i64 0, .slice none 0 0, .slice none 0 0] 43)=W2
 have hs2:W2.heap.size=w.heap.size+1+1:=by rw [←hW2];simp [hs1]
 have hS2:Step (fun _=>False) w ρ W2 ρ:=by rw [←hW2];exact hS1.alloc _
 have hb2:Blk W2 (w.heap.size+1) 43 (tyCells (kindT k [t]) (.slice (some ⟨w.heap.size+1+1,0,none⟩) 1 1) (.slice none 0 0) (.slice none 0 0)):=by rw [←hW2];exact Blk.newAt hs1 _ _
 generalize hW3:W2.alloc (.cells #[.int .i64 t.kind, .int .i64 t.n, .string t.name, .slice A0 t.args.length c0, .int .i64 t.region, .slice A1 t.eff.regs.length c1, .slice A2 t.eff.vars.length c2] 43)=W3
 have hS3:Step (fun _=>False) w ρ W3 ρ:=by rw [←hW3];exact hS2.alloc _
 have hb3:Blk W3 (w.heap.size+1+1) 43 (tyCells t (.slice A0 t.args.length c0) (.slice A1 t.eff.regs.length c1) (.slice A2 t.eff.vars.length c2)):=by rw [←hW3];exact Blk.newAt hs2 _ _
 have hb2':Blk W3 (w.heap.size+1) 43 (tyCells (kindT k [t]) (.slice (some ⟨w.heap.size+1+1,0,none⟩) 1 1) (.slice none 0 0) (.slice none 0 0)):=by rw [←hW3];exact hb2.alloc _
 have hone:=TysR.one hb3 (HFR.out _ (by omega)) (TyR.step hS3 _ HT.out)
 refine bodyPost_ret (results_cell1 rfl _ _ (w.heap.size+1) _ rfl hb2' Try.underlying43 rfl) rfl ?_
 refine ⟨_,rfl,hS3.toBelow,?_⟩
 exact ⟨_,_,_,rfl,HK.out,(⟨by decide,by decide⟩:I64 0),(⟨by decide,by decide⟩:I64 0),Nat.zero_le _,hone,SlR.nil _ _ _ _ _,SlR.nil _ _ _ _ _⟩
theorem asked_any (w:World) (ρ:Ghost) (n m q nw:Nat) (X4 X5:Nat) (st t:Ty) (ag want:List Ty) (S0 S1 S2 A0 A1 A2 G V:Option Addr) (s0 s1 s2 c0 c1 c2 cg cv:Nat) (hfr:Fresh w ρ) (h2:w.cell? ⟨X4,2,none⟩=some (.int .i64 st.kind)) (h3:w.cell? ⟨X4,3,none⟩=some (.int .i64 st.n)) (h4:w.cell? ⟨X4,4,none⟩=some (.string st.name)) (h5:w.cell? ⟨X4,5,none⟩=some (.slice S0 st.args.length s0)) (h6:w.cell? ⟨X4,6,none⟩=some (.int .i64 st.region)) (h7:w.cell? ⟨X4,7,none⟩=some (.slice S1 st.eff.regs.length s1)) (h8:w.cell? ⟨X4,8,none⟩=some (.slice S2 st.eff.vars.length s2)) (hg:w.cell? ⟨X5,0,none⟩=some (.slice G ag.length cg)) (hT:TyR w ρ n t (tyCells t (.slice A0 t.args.length c0) (.slice A1 t.eff.regs.length c1) (.slice A2 t.eff.vars.length c2))) (hS:TyR w ρ m st (tyCells st (.slice S0 st.args.length s0) (.slice S1 st.eff.regs.length s1) (.slice S2 st.eff.vars.length s2))) (hG:TysR w ρ q (.slice G ag.length cg) ag) (hV:TysR w ρ nw (.slice V want.length cv) want) (hX4:X4<w.heap.size) (hX5:X5<w.heap.size) :
 Calls Try.prog 49 #[.agg #[.int .i64 t.kind, .int .i64 t.n, .string t.name, .slice A0 t.args.length c0, .int .i64 t.region, .slice A1 t.eff.regs.length c1, .slice A2 t.eff.vars.length c2], .slice V want.length cv, .pointer (some ⟨X4,0,none⟩), .pointer (some ⟨X5,0,none⟩)] w fun e w'=>e= .returned (.bool (sameL [st] [t] && sameL ag want))∧Below w.heap.size w w':=by
 have HT:=Hd.mk hT
 have HS:=Hd.mk hS
 have HG:=Hd.mk hG
 have HV:=Hd.mk hV
 have HFR:=Hd.mk hfr
 obtain ⟨z,hz⟩:∃ z,sameL [st] [t]=z:=⟨_,rfl⟩
 obtain ⟨z2,hz2⟩:∃ z,sameL ag want=z:=⟨_,rfl⟩
 rw [hz,hz2]
 have HZ:=Hd.mk hz
 have HZ2:=Hd.mk hz2
 clear hT hS hG hV hfr hz hz2
 go_enter Try.func49,Try.ntmps49
 go_wp2_with fail
 generalize hW1:w.alloc (.cells #[.int .i64 t.kind, .int .i64 t.n, .string t.name, .slice A0 t.args.length c0, .int .i64 t.region, .slice A1 t.eff.regs.length c1, .slice A2 t.eff.vars.length c2] 43)=W1
 have hs1:W1.heap.size=w.heap.size+1:=by rw [←hW1];simp
 have hS1:Step (fun _=>False) w ρ W1 ρ:=by rw [←hW1];exact (Step.refl _ w ρ).alloc _
 generalize hW2:W1.alloc (.cells #[.int .i64 st.kind, .int .i64 st.n, .string st.name, .slice S0 st.args.length s0, .int .i64 st.region, .slice S1 st.eff.regs.length s1, .slice S2 st.eff.vars.length s2] 43)=W2
 have hs2:W2.heap.size=w.heap.size+1+1:=by rw [←hW2];simp [hs1]
 have hS2:Step (fun _=>False) w ρ W2 ρ:=by rw [←hW2];exact hS1.alloc _
 have hb2:Blk W2 (w.heap.size+1) 43 (tyCells st (.slice S0 st.args.length s0) (.slice S1 st.eff.regs.length s1) (.slice S2 st.eff.vars.length s2)):=by rw [←hW2];exact Blk.newAt hs1 _ _
 generalize hW3:W2.alloc (.cells #[.int .i64 t.kind, .int .i64 t.n, .string t.name, .slice A0 t.args.length c0, .int .i64 t.region, .slice A1 t.eff.regs.length c1, .slice A2 t.eff.vars.length c2] 43)=W3
 have hS3:Step (fun _=>False) w ρ W3 ρ:=by rw [←hW3];exact hS2.alloc _
 have hb3:Blk W3 (w.heap.size+1+1) 43 (tyCells t (.slice A0 t.args.length c0) (.slice A1 t.eff.regs.length c1) (.slice A2 t.eff.vars.length c2)):=by rw [←hW3];exact Blk.newAt hs2 _ _
 have hb2':Blk W3 (w.heap.size+1) 43 (tyCells st (.slice S0 st.args.length s0) (.slice S1 st.eff.regs.length s1) (.slice S2 st.eff.vars.length s2)):=by rw [←hW3];exact hb2.alloc _
 have o1:=TysR.one hb2' (HFR.out _ (by omega)) (TyR.step hS3 _ HS.out)
 have o2:=TysR.one hb3 (HFR.out _ (by omega)) (TyR.step hS3 _ HT.out)
 have HS3:=Hd.mk hS3
 have hcall:=same_any m n W3 ρ [st] [t] _ _ _ _ o1 o2
 rw [HZ.out] at hcall
 have HCALL:=Hd.mk hcall
 clear hcall o1 o2 hb3 hb2 hb2' hS1 hS2 hS3 hW1 hW2 hW3 hs1 hs2
 refine HCALL.out.mono ?_
 rintro e W4 ⟨rfl,hd⟩
 have HS4:=Hd.mk (HS3.out.trans (hd.step ρ))
 have hg4:W4.cell? ⟨X5,0,none⟩=some (.slice G ag.length cg):=(World.cell?_of_block (HS4.out.block X5 hX5 (fun _ _ h=>h))).trans hg
 clear hd HCALL
 cases z with
 |false =>
  go_wp2
  go_ret
  exact ⟨rfl,HS4.out.toBelow⟩
 |true =>
  have hcall:=same_any q nw W4 ρ ag want _ _ _ _ (HG.out.step HS4.out) (HV.out.step HS4.out)
  rw [HZ2.out] at hcall
  have HCALL:=Hd.mk hcall
  clear hcall
  go_wp2_with fail
  refine HCALL.out.mono ?_
  rintro e W5 ⟨rfl,hd⟩
  have HS5:=Hd.mk (HS4.out.trans (hd.step ρ))
  clear hd HCALL
  go_wp2
  go_ret
  exact ⟨by simp,HS5.out.toBelow⟩
theorem first_none (W:World) (ρ:Ghost) (X5:Nat) (ag:List Ty) (G:Option Addr) (cg:Nat) (hg:W.cell? ⟨X5,0,none⟩=some (.slice G ag.length cg)) (hX5:X5<W.heap.size) (h:ag=[]∨∃ b o a l c0,ag=a :: l∧a.args=[]∧G=some ⟨b,o,none⟩∧b<W.heap.size∧W.cell? ⟨b,o+3,none⟩=some c0∧∃ A c,c0= .slice A 0 c) :
 Calls Try.prog 51 #[.pointer (some ⟨X5,0,none⟩)] W fun e w'=>e= .returned (.agg #[.int .i64 (-1), .int .i64 0, .string ⟨#[]⟩, .slice none 0 0, .int .i64 0, .slice none 0 0, .slice none 0 0])∧Below W.heap.size W w':=by
 have HS1:=Hd.mk ((Step.refl (fun _=>False) W ρ).alloc (.cells #[.int .i64 (-1), .int .i64 0, .string ⟨#[]⟩, .slice none 0 0, .int .i64 0, .slice none 0 0, .slice none 0 0] 43))
 have HB1:=Hd.mk (Blk.new W (tyCells (kindT (-1) []) (.slice none 0 0) (.slice none 0 0) (.slice none 0 0)) 43)
 rcases h with rfl|⟨b,o,a,l,c0,rfl,ha,rfl,hb,hc,A,c,rfl⟩
 ·simp only [List.length_nil] at hg
  go_enter Try.func51,Try.ntmps51
  go_wp2
  refine bodyPost_ret (results_cell1 rfl _ _ W.heap.size _ rfl HB1.out Try.underlying43 rfl) rfl ?_
  exact ⟨rfl,HS1.out.toBelow⟩
 ·simp only [List.length_cons] at hg
  have hll4:((l.length:Int)+1 == 0)=false:=by simp;omega
  have hll5:¬((l.length:Int)+1=0):=by omega
  have hll6:(0:Int)<(l.length:Int)+1:=by omega
  clear ha
  go_enter Try.func51,Try.ntmps51
  go_wp2
  refine bodyPost_ret (results_cell1 rfl _ _ W.heap.size _ rfl HB1.out Try.underlying43 rfl) rfl ?_
  exact ⟨rfl,HS1.out.toBelow⟩
theorem first_some (W:World) (ρ:Ghost) (X5:Nat) (n m b o c b2 o2 k:Nat) (A:Nat) (v0 v1 v4:Int) (v2:ByteArray) (B0 B1 B2:Option Addr) (n0 n1 n2 k0 k1 k2:Nat) (hg:W.cell? ⟨X5,0,none⟩=some (.slice (some ⟨b,o,none⟩) (n+1) c)) (hX5:X5<W.heap.size) (hb:b<W.heap.size) (hb2:b2<W.heap.size) (hc:W.cell? ⟨b,o+3,none⟩=some (.slice (some ⟨b2,o2,none⟩) (m+1) k)) (z0:W.cell? ⟨b2,o2,none⟩=some (.int .i64 v0)) (z1:W.cell? ⟨b2,o2+1,none⟩=some (.int .i64 v1)) (z2:W.cell? ⟨b2,o2+2,none⟩=some (.string v2)) (z3:W.cell? ⟨b2,o2+3,none⟩=some (.slice B0 n0 k0)) (z4:W.cell? ⟨b2,o2+4,none⟩=some (.int .i64 v4)) (z5:W.cell? ⟨b2,o2+5,none⟩=some (.slice B1 n1 k1)) (z6:W.cell? ⟨b2,o2+6,none⟩=some (.slice B2 n2 k2)) :
 Calls Try.prog 51 #[.pointer (some ⟨X5,0,none⟩)] W fun e w'=>e= .returned (.agg #[.int .i64 v0, .int .i64 v1, .string v2, .slice B0 n0 k0, .int .i64 v4, .slice B1 n1 k1, .slice B2 n2 k2])∧Below W.heap.size W w':=by
 have HS1:=Hd.mk ((Step.refl (fun _=>False) W ρ).alloc (.cells #[.int .i64 v0, .int .i64 v1, .string v2, .slice B0 n0 k0, .int .i64 v4, .slice B1 n1 k1, .slice B2 n2 k2] 43))
 have HB1:=Hd.mk (Blk.new W [.int .i64 v0, .int .i64 v1, .string v2, .slice B0 n0 k0, .int .i64 v4, .slice B1 n1 k1, .slice B2 n2 k2] 43)
 have hll4:((n:Int)+1 == 0)=false:=by simp;omega
 have hll5:¬((n:Int)+1=0):=by omega
 have hll6:(0:Int)<(n:Int)+1:=by omega
 have hmm4:((m:Int)+1 == 0)=false:=by simp;omega
 have hmm5:¬((m:Int)+1=0):=by omega
 have hmm6:(0:Int)<(m:Int)+1:=by omega
 go_enter Try.func51,Try.ntmps51
 go_wp2
 refine bodyPost_ret (results_cell1 rfl _ _ W.heap.size _ rfl HB1.out Try.underlying43 rfl) rfl ?_
 exact ⟨rfl,HS1.out.toBelow⟩
theorem first_any (w:World) (ρ:Ghost) (q:Nat) (X5:Nat) (ag:List Ty) (G:Option Addr) (cg:Nat) (hg:w.cell? ⟨X5,0,none⟩=some (.slice G ag.length cg)) (hG:TysR w ρ q (.slice G ag.length cg) ag) :
 ∃ B0 B1 B2 k0 k1 k2,TyE w ρ (firstT ag) (tyCells (firstT ag) (.slice B0 (firstT ag).args.length k0) (.slice B1 (firstT ag).eff.regs.length k1) (.slice B2 (firstT ag).eff.vars.length k2))∧∀ W,Step (fun _=>False) w ρ W ρ→Calls Try.prog 51 #[.pointer (some ⟨X5,0,none⟩)] W fun e w'=>e= .returned (.agg #[.int .i64 (firstT ag).kind, .int .i64 (firstT ag).n, .string (firstT ag).name, .slice B0 (firstT ag).args.length k0, .int .i64 (firstT ag).region, .slice B1 (firstT ag).eff.regs.length k1, .slice B2 (firstT ag).eff.vars.length k2])∧Below W.heap.size W w':=by
 have hX5:X5<w.heap.size:=World.block_lt_of_cell? w ⟨X5,0,none⟩ hg
 have keep:∀ W a v,Step (fun _=>False) w ρ W ρ→w.cell? a=some v→W.cell? a=some v:=fun W a v hs h=>(World.cell?_of_block (hs.block a.block (World.block_lt_of_cell? w a h) (fun _ _ h=>h))).trans h
 have neg:TyR w ρ 1 (kindT (-1) []) (tyCells (kindT (-1) []) (.slice none 0 0) (.slice none 0 0) (.slice none 0 0)) :=
  ⟨_,_,_,rfl,(⟨by decide,by decide⟩:I64 (-1)),(⟨by decide,by decide⟩:I64 0),(⟨by decide,by decide⟩:I64 0),Nat.zero_le _,SlR.nil _ _ _ _ _,SlR.nil _ _ _ _ _,SlR.nil _ _ _ _ _⟩
 cases ag with
 |nil=>exact ⟨none,none,none,0,0,0,⟨1,neg⟩,fun W hs=>first_none W ρ X5 [] G cg (keep W _ _ hs hg) (Nat.lt_of_lt_of_le hX5 hs.size) (.inl rfl)⟩
 |cons a l =>
  obtain ⟨b1,o1,m1,A0,c0,A1,c1,A2,c2,hA1,hm1,hR1,hTa,hcA⟩:=hG.elemC (k:=0) (t:=a) rfl
  subst hA1
  have p3:w.cell? ⟨b1,o1+0*7+3,none⟩=some (.slice A0 a.args.length c0):=hcA 3 _ rfl
  rw [show o1+0*7=o1 by omega] at p3
  have hb1:b1<w.heap.size:=World.block_lt_of_cell? w ⟨b1,_,none⟩ p3
  cases ha:a.args with
  |nil =>
   rw [ha] at p3
   have hf:firstT (a :: l)=kindT (-1) []:=by unfold firstT;simp only [ha]
   rw [hf]
   exact ⟨none,none,none,0,0,0,⟨1,neg⟩,fun W hs=>first_none W ρ X5 (a :: l) _ cg (keep W _ _ hs hg) (Nat.lt_of_lt_of_le hX5 hs.size) (.inr ⟨b1,o1,a,l,_,rfl,ha,rfl,Nat.lt_of_lt_of_le hb1 hs.size,keep W _ _ hs p3,_,_,rfl⟩)⟩
  |cons x m =>
   have hf:firstT (a :: l)=x:=by unfold firstT;simp only [ha]
   rw [hf]
   rw [ha] at p3 hTa
   obtain ⟨b2,o2,m2,B0,k0,B1,k1,B2,k2,hA2,hm2,hR2,hTb,hcB⟩:=hTa.elemC (k:=0) (t:=x) rfl
   subst hA2
   rw [show o2+0*7=o2 by omega] at hcB
   have z0:w.cell? ⟨b2,o2,none⟩=some (.int .i64 x.kind):=hcB 0 _ rfl
   have hb2:b2<w.heap.size:=World.block_lt_of_cell? w ⟨b2,_,none⟩ z0
   exact ⟨B0,B1,B2,k0,k1,k2,⟨_,hR2⟩,fun W hs=>first_some W ρ X5 l.length m.length b1 o1 cg b2 o2 c0 0 x.kind x.n x.region x.name B0 B1 B2 _ _ _ k0 k1 k2 (keep W _ _ hs hg) (Nat.lt_of_lt_of_le hX5 hs.size) (Nat.lt_of_lt_of_le hb1 hs.size) (Nat.lt_of_lt_of_le hb2 hs.size) (keep W _ _ hs p3) (keep W _ _ hs z0) (keep W _ _ hs (hcB 1 _ rfl)) (keep W _ _ hs (hcB 2 _ rfl)) (keep W _ _ hs (hcB 3 _ rfl)) (keep W _ _ hs (hcB 4 _ rfl)) (keep W _ _ hs (hcB 5 _ rfl)) (keep W _ _ hs (hcB 6 _ rfl))⟩
end
end Go.Proofs.Ytadffbgbndibpaa
