/- FlT, FlU: lemmas and walks of the claim. -/
import Derived.Test.YtadffbgbndibpaaKFlS
import Derived.Laws.Cover3
set_option linter.unusedVariables false
set_option linter.unusedSimpArgs false
set_option maxHeartbeats 16000000
set_option maxRecDepth 100000
namespace Go.Proofs.Ytadffbgbndibpaa
section
open Go Go.RowKit
mutual
theorem room0_le (left:Int) (d:Nat):∀ t:Ty,0≤left→ -1≤room0 left d t∧room0 left d t≤left
 |.mk _ _ _ args _ _,h=>by
  have:=room0L_le (left-1) (d+1) args (by omega)
  rw [room0]
  split <;> omega
theorem room0L_le (left:Int) (d:Nat):∀ l:List Ty, -1≤left→ -1≤room0L left d l∧room0L left d l≤left
 |[],h=>by rw [room0L];omega
 |t :: l,h=>by
  rw [room0L]
  split
  ·omega
  ·have h1:=room0_le left d t (by omega)
   have h2:=room0L_le (room0 left d t) d l h1.1
   omega
end
mutual
theorem room1_le (ag:List Ty) (left:Int) (d:Nat):∀ t:Ty,0≤left→ -1≤room1 ag left d t∧room1 ag left d t≤left
 |.mk k n _ args _ _,h=>by
  have:=room1L_le ag (left-1) (d+1) args (by omega)
  rw [room1]
  split
  ·split
   ·rename_i t _
    exact room0_le left d t h
   ·omega
  ·split <;> omega
theorem room1L_le (ag:List Ty) (left:Int) (d:Nat):∀ l:List Ty, -1≤left→ -1≤room1L ag left d l∧room1L ag left d l≤left
 |[],h=>by rw [room1L];omega
 |t :: l,h=>by
  rw [room1L]
  split
  ·omega
  ·have h1:=room1_le ag left d t (by omega)
   have h2:=room1L_le ag (room1 ag left d t) d l h1.1
   omega
end
theorem room0_eq (left:Int) (d:Nat) (t:Ty):room0 left d t=if 64<d then -1 else room0L (left-1) (d+1) t.args:=by cases t;rw [room0];rfl
theorem room1_eq {ag:List Ty} (left:Int) (d:Nat) {t:Ty} (h:¬t.kind=3):room1 ag left d t=if 64<d then -1 else room1L ag (left-1) (d+1) t.args:=by
 cases t
 simp only [Ty.kind] at h
 rw [room1,if_neg (by simp [h])]
 rfl
theorem room1_var {ag:List Ty} (left:Int) (d:Nat) {t x:Ty} {n:Nat} (h3:t.kind=3) (hn:t.n=n) (hx:ag[n]? =some x):room1 ag left d t=room0 left d x:=by
 cases t with
 |mk k n' _ args _ _ =>
  simp only [Ty.kind] at h3
  simp only [Ty.n] at hn
  subst h3
  subst hn
  have hne:ag≠[]:=by rintro rfl;simp at hx
  rw [room1,if_pos ⟨rfl,hne⟩]
  simp only [atVar,Int.toNat_natCast,hx]
theorem room0_any (n:Nat):∀ (w:World) (ρ:Ghost) (t:Ty) (A0 A1 A2:Option Addr) (c0 c1 c2:Nat) (left:Int) (d:Nat),TyR w ρ n t [.int .i64 t.kind, .int .i64 t.n, .string t.name, .slice A0 t.args.length c0, .int .i64 t.region, .slice A1 t.eff.regs.length c1, .slice A2 t.eff.vars.length c2]→0≤left→left≤1000→d≤1000 →
 Calls Try.prog 59 #[.agg #[.int .i64 t.kind, .int .i64 t.n, .string t.name, .slice A0 t.args.length c0, .int .i64 t.region, .slice A1 t.eff.regs.length c1, .slice A2 t.eff.vars.length c2], .slice none 0 0, .int .i64 left, .int .i64 d] w fun e w'=>e= .returned (.int .i64 (room0 left d t))∧Below w.heap.size w w':=by
 induction n using Nat.strongRecOn with
 |ind n ih =>
  intro w ρ t A0 A1 A2 c0 c1 c2 left d hT h0 h1 hd
  obtain ⟨m,_,_,_,hnm,hcs,_,_,_,_,hTA,_,_⟩:=TyR.shape hT
  simp only [List.cons.injEq,and_true,true_and] at hcs
  obtain ⟨rfl,rfl,rfl⟩:=hcs
  obtain ⟨A',c',hv,hlc,hcm⟩:=SlR.form hTA
  cases hv
  have hlen:t.args.length≤9223372036854775807:=by unfold maxLen at hcm;omega
  have HTA:=Hd.mk hTA
  have HIH:=Hd.mk ih
  have q41:∀ W A l c,(binOp .neq 41 (.slice A l c) (.slice none 0 0)).run Try.prog W= .ok (.bool (!A.isNone)) W:=fun W A l c=>run_neq_slice_nil W _ _ A l c Try.underlying41
  have HS0:=Hd.mk ((Step.refl (fun _=>False) w ρ).alloc (.cells #[.int .i64 t.kind, .int .i64 t.n, .string t.name, .slice A0 t.args.length c0, .int .i64 t.region, .slice A1 t.eff.regs.length c1, .slice A2 t.eff.vars.length c2] 43))
  have hle:=room0_le left d t h0
  obtain ⟨r,hr⟩:∃ z,room0 left d t=z:=⟨_,rfl⟩
  rw [hr] at hle ⊢
  have HR:=Hd.mk hr
  have ew:IntKind.i64.wrap (left-1)=left-1:=IntWalk.i64_in _ (by omega)
  have ewd:IntKind.i64.wrap ((d:Int)+1)=(d:Int)+1:=IntWalk.i64_in _ (by omega)
  by_cases hk3:t.kind=3
  ·rw [hk3]
   rw [hk3] at HS0
   by_cases hdd:64<d
   ·have hddi:(64:Int)<d:=by omega
    have hrr:r= -1:=by rw [←HR.out,room0_eq left d t,if_pos hdd]
    subst hrr
    clear hT hTA ih hlc hcm hr hdd hle
    go_enter Try.func59,Try.ntmps59
    go_wp2
    go_ret
    exact ⟨rfl,HS0.out.toBelow⟩
   ·have hddi:¬(64:Int)<d:=by omega
    have hrr:room0L (left-1) (d+1) t.args=r:=by rw [←HR.out,room0_eq left d t,if_neg hdd]
    have HRR:=Hd.mk hrr
    clear hT hTA ih hlc hcm hr hrr hle
    go_enter Try.func59,Try.ntmps59
    go_wp2_with fail
    go_loopw [2,33] (fun vl vk wr=>∃ (k:Nat) (lf:Int),vk= .int .i64 k∧vl= .int .i64 lf∧k≤t.args.length∧room0L (left-1) (d+1) t.args=room0L lf (d+1) (t.args.drop k)∧ -1≤lf∧lf≤1000∧Step (fun _=>False) w ρ wr ρ) (fun _ v _=>t.args.length-(intOf v).toNat)
    case atStart=>exact ⟨0,left-1,by simp,rfl,by omega,by simp,by omega,by omega,HS0.out⟩
    case round =>
     obtain ⟨k,lf,rfl,rfl,hk,he,hb1,hb2,hS⟩:=hrel
     have HE0:=Hd.mk he
     have HS:=Hd.mk hS
     clear he hS
     by_cases hlt:k<t.args.length
     ·obtain ⟨b1,o1,m1,D0,d0,D1,d1,D2,d2,hA1,hm1,hR1,hTa,hcA⟩:=(HTA.out.step HS.out).elemC (List.getElem?_eq_getElem hlt)
      subst hA1
      have hdr:=drop_cons (List.getElem?_eq_getElem hlt)
      generalize t.args[k]=x at *
      have hE:=HE0.out
      rw [hdr,room0L] at hE
      have HE:=Hd.mk hE
      have HRX:=Hd.mk hR1
      have hlti:(k:Int)<t.args.length:=by omega
      clear hR1 hTa hdr hE HE0
      have hin:(Try.prog.info? 43).map (·.size)=some 7:=by kernel_rfl
      generalize hcs:tyCells x _ _ _=cs at hcA
      have hcl:cs.length=7:=by rw [←hcs];rfl
      have hone:cs.toArray.all (·.oneCell')=true:=by rw [←hcs];exact tyCells_one ..
      have hin2:(Try.prog.info? 43).map (·.size)=some cs.length:=by rw [hcl];exact hin
      have HSZ:Hd (cs.toArray.size=7):=⟨by rw [List.size_toArray,hcl]⟩
      have HCC:Hd (wr.rangeAt b1 (o1+k*7) cs):=⟨hcA⟩
      have HIN:=Hd.mk hin2
      have HON:=Hd.mk hone
      have HAA:=Hd.mk ((Step.refl (fun _=>False) wr ρ).alloc (.cells cs.toArray 43))
      have XS0:=Hd.mk (Blk.new' wr cs.toArray 43)
      have HCS:=Hd.mk hcs
      clear hcA hin hone hcs hin2 hcl
      go_wp2_with (first|(refine wpList_load_mid rfl 43 _ rfl b1 (o1+k*7) rfl cs _ HCC.out Try.underlying43 rfl HIN.out ?_)|(refine wpList_store_newV rfl 43 _ _ rfl _ cs.toArray rfl rfl (by rw [List.size_toArray];exact HIN.out) (by exact (Eq.trans rfl HSZ.out.symm)) HON.out ?_))
      refine ⟨?_⟩
      generalize wr.alloc (.cells cs.toArray 43)=W1 at *
      generalize wr.heap.size=X1 at *
      have xs0:Blk W1 X1 43 cs:=XS0.out
      rw [←HCS.out] at xs0
      have XSA:=Hd.mk xs0
      clear xs0 XS0 HCS HON HIN HCC HSZ
      have HS2:=HAA
      have y0:W1.cell? ⟨X1,0,none⟩=some (.int .i64 x.kind):=XSA.out.cell (i:=0) rfl
      have y1:W1.cell? ⟨X1,1,none⟩=some (.int .i64 x.n):=XSA.out.cell (i:=1) rfl
      have y2:W1.cell? ⟨X1,2,none⟩=some (.string x.name):=XSA.out.cell (i:=2) rfl
      have y3:W1.cell? ⟨X1,3,none⟩=some (.slice D0 x.args.length d0):=XSA.out.cell (i:=3) rfl
      have y4:W1.cell? ⟨X1,4,none⟩=some (.int .i64 x.region):=XSA.out.cell (i:=4) rfl
      have y5:W1.cell? ⟨X1,5,none⟩=some (.slice D1 x.eff.regs.length d1):=XSA.out.cell (i:=5) rfl
      have y6:W1.cell? ⟨X1,6,none⟩=some (.slice D2 x.eff.vars.length d2):=XSA.out.cell (i:=6) rfl
      by_cases hneg:lf<0
      ·have hE:=HE.out
       rw [if_pos hneg] at hE
       have hrr:r= -1:=by rw [←HRR.out,hE]
       subst hrr
       clear hE
       go_wp2
       go_ret
       exact ⟨rfl,(HS.out.trans HS2.out).toBelow⟩
      ·have hE:=HE.out
       rw [if_neg hneg] at hE
       have HE2:=Hd.mk hE
       have hrec:=HIH.out m (by omega) W1 ρ x D0 D1 D2 d0 d1 d2 lf (d+1) (TyR.step HS2.out _ HRX.out) (by omega) hb2 (by omega)
       have ecast:((d+1:Nat):Int)=(d:Int)+1:=by omega
       rw [ecast] at hrec
       have hle2:=room0_le lf (d+1) x (by omega)
       obtain ⟨z,hz⟩:∃ z,room0 lf (d+1) x=z:=⟨_,rfl⟩
       rw [hz] at hrec hle2 HE2
       have HREC:=Hd.mk hrec
       clear hrec hz hE ecast HE
       generalize x.kind=u0 at *
       generalize x.n=u1 at *
       generalize x.name=u2 at *
       generalize x.region=u4 at *
       go_wp2_with fail
       refine HREC.out.mono ?_
       rintro e W3 ⟨rfl,hb⟩
       have HS3:=Hd.mk (HS2.out.of_below hb)
       clear hb HREC y0 y1 y2 y3 y4 y5 y6
       go_wp2
       go_roundw
       case rel=>exact ⟨k+1,z,by go_num,rfl,by omega,HE2.out,by omega,by omega,HS.out.trans HS3.out⟩
       case measure=>simp [intOf];omega
     ·have hke:k=t.args.length:=by omega
      subst hke
      have hE:=HE0.out
      rw [List.drop_length,room0L] at hE
      have hrr:r=lf:=by rw [←HRR.out,hE]
      subst hrr
      clear hE
      go_wp2
      go_ret
      exact ⟨rfl,HS.out.toBelow⟩
  ·have hkb3:(t.kind == 3)=false:=by simpa using hk3
   by_cases hdd:64<d
   ·have hddi:(64:Int)<d:=by omega
    have hrr:r= -1:=by rw [←HR.out,room0_eq left d t,if_pos hdd]
    subst hrr
    clear hT hTA ih hlc hcm hr hdd hle
    go_enter Try.func59,Try.ntmps59
    go_wp2
    go_ret
    exact ⟨rfl,HS0.out.toBelow⟩
   ·have hddi:¬(64:Int)<d:=by omega
    have hrr:room0L (left-1) (d+1) t.args=r:=by rw [←HR.out,room0_eq left d t,if_neg hdd]
    have HRR:=Hd.mk hrr
    clear hT hTA ih hlc hcm hr hrr hle
    go_enter Try.func59,Try.ntmps59
    go_wp2_with fail
    go_loopw [2,33] (fun vl vk wr=>∃ (k:Nat) (lf:Int),vk= .int .i64 k∧vl= .int .i64 lf∧k≤t.args.length∧room0L (left-1) (d+1) t.args=room0L lf (d+1) (t.args.drop k)∧ -1≤lf∧lf≤1000∧Step (fun _=>False) w ρ wr ρ) (fun _ v _=>t.args.length-(intOf v).toNat)
    case atStart=>exact ⟨0,left-1,by simp,rfl,by omega,by simp,by omega,by omega,HS0.out⟩
    case round =>
     obtain ⟨k,lf,rfl,rfl,hk,he,hb1,hb2,hS⟩:=hrel
     have HE0:=Hd.mk he
     have HS:=Hd.mk hS
     clear he hS
     by_cases hlt:k<t.args.length
     ·obtain ⟨b1,o1,m1,D0,d0,D1,d1,D2,d2,hA1,hm1,hR1,hTa,hcA⟩:=(HTA.out.step HS.out).elemC (List.getElem?_eq_getElem hlt)
      subst hA1
      have hdr:=drop_cons (List.getElem?_eq_getElem hlt)
      generalize t.args[k]=x at *
      have hE:=HE0.out
      rw [hdr,room0L] at hE
      have HE:=Hd.mk hE
      have HRX:=Hd.mk hR1
      have hlti:(k:Int)<t.args.length:=by omega
      clear hR1 hTa hdr hE HE0
      have hin:(Try.prog.info? 43).map (·.size)=some 7:=by kernel_rfl
      generalize hcs:tyCells x _ _ _=cs at hcA
      have hcl:cs.length=7:=by rw [←hcs];rfl
      have hone:cs.toArray.all (·.oneCell')=true:=by rw [←hcs];exact tyCells_one ..
      have hin2:(Try.prog.info? 43).map (·.size)=some cs.length:=by rw [hcl];exact hin
      have HSZ:Hd (cs.toArray.size=7):=⟨by rw [List.size_toArray,hcl]⟩
      have HCC:Hd (wr.rangeAt b1 (o1+k*7) cs):=⟨hcA⟩
      have HIN:=Hd.mk hin2
      have HON:=Hd.mk hone
      have HAA:=Hd.mk ((Step.refl (fun _=>False) wr ρ).alloc (.cells cs.toArray 43))
      have XS0:=Hd.mk (Blk.new' wr cs.toArray 43)
      have HCS:=Hd.mk hcs
      clear hcA hin hone hcs hin2 hcl
      go_wp2_with (first|(refine wpList_load_mid rfl 43 _ rfl b1 (o1+k*7) rfl cs _ HCC.out Try.underlying43 rfl HIN.out ?_)|(refine wpList_store_newV rfl 43 _ _ rfl _ cs.toArray rfl rfl (by rw [List.size_toArray];exact HIN.out) (by exact (Eq.trans rfl HSZ.out.symm)) HON.out ?_))
      refine ⟨?_⟩
      generalize wr.alloc (.cells cs.toArray 43)=W1 at *
      generalize wr.heap.size=X1 at *
      have xs0:Blk W1 X1 43 cs:=XS0.out
      rw [←HCS.out] at xs0
      have XSA:=Hd.mk xs0
      clear xs0 XS0 HCS HON HIN HCC HSZ
      have HS2:=HAA
      have y0:W1.cell? ⟨X1,0,none⟩=some (.int .i64 x.kind):=XSA.out.cell (i:=0) rfl
      have y1:W1.cell? ⟨X1,1,none⟩=some (.int .i64 x.n):=XSA.out.cell (i:=1) rfl
      have y2:W1.cell? ⟨X1,2,none⟩=some (.string x.name):=XSA.out.cell (i:=2) rfl
      have y3:W1.cell? ⟨X1,3,none⟩=some (.slice D0 x.args.length d0):=XSA.out.cell (i:=3) rfl
      have y4:W1.cell? ⟨X1,4,none⟩=some (.int .i64 x.region):=XSA.out.cell (i:=4) rfl
      have y5:W1.cell? ⟨X1,5,none⟩=some (.slice D1 x.eff.regs.length d1):=XSA.out.cell (i:=5) rfl
      have y6:W1.cell? ⟨X1,6,none⟩=some (.slice D2 x.eff.vars.length d2):=XSA.out.cell (i:=6) rfl
      by_cases hneg:lf<0
      ·have hE:=HE.out
       rw [if_pos hneg] at hE
       have hrr:r= -1:=by rw [←HRR.out,hE]
       subst hrr
       clear hE
       go_wp2
       go_ret
       exact ⟨rfl,(HS.out.trans HS2.out).toBelow⟩
      ·have hE:=HE.out
       rw [if_neg hneg] at hE
       have HE2:=Hd.mk hE
       have hrec:=HIH.out m (by omega) W1 ρ x D0 D1 D2 d0 d1 d2 lf (d+1) (TyR.step HS2.out _ HRX.out) (by omega) hb2 (by omega)
       have ecast:((d+1:Nat):Int)=(d:Int)+1:=by omega
       rw [ecast] at hrec
       have hle2:=room0_le lf (d+1) x (by omega)
       obtain ⟨z,hz⟩:∃ z,room0 lf (d+1) x=z:=⟨_,rfl⟩
       rw [hz] at hrec hle2 HE2
       have HREC:=Hd.mk hrec
       clear hrec hz hE ecast HE
       generalize x.kind=u0 at *
       generalize x.n=u1 at *
       generalize x.name=u2 at *
       generalize x.region=u4 at *
       go_wp2_with fail
       refine HREC.out.mono ?_
       rintro e W3 ⟨rfl,hb⟩
       have HS3:=Hd.mk (HS2.out.of_below hb)
       clear hb HREC y0 y1 y2 y3 y4 y5 y6
       go_wp2
       go_roundw
       case rel=>exact ⟨k+1,z,by go_num,rfl,by omega,HE2.out,by omega,by omega,HS.out.trans HS3.out⟩
       case measure=>simp [intOf];omega
     ·have hke:k=t.args.length:=by omega
      subst hke
      have hE:=HE0.out
      rw [List.drop_length,room0L] at hE
      have hrr:r=lf:=by rw [←HRR.out,hE]
      subst hrr
      clear hE
      go_wp2
      go_ret
      exact ⟨rfl,HS.out.toBelow⟩
theorem room1_any (n:Nat):∀ (n3:Nat) (ds:List Dat) (ag:List Ty) (B:Option Addr) (cb:Nat) (w:World) (ρ:Ghost) (t:Ty) (A0 A1 A2:Option Addr) (c0 c1 c2:Nat) (left:Int) (d:Nat),TyR w ρ n t [.int .i64 t.kind, .int .i64 t.n, .string t.name, .slice A0 t.args.length c0, .int .i64 t.region, .slice A1 t.eff.regs.length c1, .slice A2 t.eff.vars.length c2]→TysR w ρ n3 (.slice B ag.length cb) ag→formed1 ds ag.length t=true→0≤left→left≤1000→d≤1000 →
 Calls Try.prog 59 #[.agg #[.int .i64 t.kind, .int .i64 t.n, .string t.name, .slice A0 t.args.length c0, .int .i64 t.region, .slice A1 t.eff.regs.length c1, .slice A2 t.eff.vars.length c2], .slice B ag.length cb, .int .i64 left, .int .i64 d] w fun e w'=>e= .returned (.int .i64 (room1 ag left d t))∧Below w.heap.size w w':=by
 induction n using Nat.strongRecOn with
 |ind n ih =>
  intro n3 ds ag B cb w ρ t A0 A1 A2 c0 c1 c2 left d hT hB hF h0 h1 hd
  obtain ⟨m,_,_,_,hnm,hcs,_,_,_,_,hTA,_,_⟩:=TyR.shape hT
  simp only [List.cons.injEq,and_true,true_and] at hcs
  obtain ⟨rfl,rfl,rfl⟩:=hcs
  obtain ⟨A',c',hv,hlc,hcm⟩:=SlR.form hTA
  cases hv
  have hlen:t.args.length≤9223372036854775807:=by unfold maxLen at hcm;omega
  have HTA:=Hd.mk hTA
  have HB:=Hd.mk hB
  have HF:=Hd.mk hF
  have hleb:ag.length≤9223372036854775807:=by
   obtain ⟨_,_,hv,h2,h3⟩:=SlR.form hB
   cases hv
   unfold maxLen at h3
   omega
  clear hB hF
  have HIH:=Hd.mk ih
  have q41:∀ W A l c,(binOp .neq 41 (.slice A l c) (.slice none 0 0)).run Try.prog W= .ok (.bool (!A.isNone)) W:=fun W A l c=>run_neq_slice_nil W _ _ A l c Try.underlying41
  have HS0:=Hd.mk ((Step.refl (fun _=>False) w ρ).alloc (.cells #[.int .i64 t.kind, .int .i64 t.n, .string t.name, .slice A0 t.args.length c0, .int .i64 t.region, .slice A1 t.eff.regs.length c1, .slice A2 t.eff.vars.length c2] 43))
  have hle:=room1_le ag left d t h0
  obtain ⟨r,hr⟩:∃ z,room1 ag left d t=z:=⟨_,rfl⟩
  rw [hr] at hle ⊢
  have HR:=Hd.mk hr
  have ew:IntKind.i64.wrap (left-1)=left-1:=IntWalk.i64_in _ (by omega)
  have ewd:IntKind.i64.wrap ((d:Int)+1)=(d:Int)+1:=IntWalk.i64_in _ (by omega)
  by_cases hk3:t.kind=3
  ·have hvar:=formed1_var HF.out hk3
   obtain ⟨nn,hnn⟩:=Int.eq_ofNat_of_zero_le hvar.1
   have hnl:nn<ag.length:=by have:=hvar.2;omega
   have hnl2:(nn:Int)<ag.length:=by omega
   have hn0:(0:Int)≤nn:=by omega
   obtain ⟨bB,oB,m1,D0,d0,D1,d1,D2,d2,hA1,hm1,hR1,hTa,hcA⟩:=(HB.out.step HS0.out).elemC (List.getElem?_eq_getElem hnl)
   subst hA1
   have hrr:=room1_var left d hk3 hnn (List.getElem?_eq_getElem hnl)
   generalize ag[nn]=x at *
   rw [hr] at hrr
   have hle2:=room0_le left d x h0
   have HC:Hd (∀ W,Step (fun _=>False) w ρ W ρ→True):=⟨fun _ _=>trivial⟩
   have HR1:=Hd.mk hR1
   rw [hk3,hnn]
   rw [hk3,hnn] at HS0 hcA hR1
   generalize hWn:w.alloc (.cells #[.int .i64 3, .int .i64 nn, .string t.name, .slice A0 t.args.length c0, .int .i64 t.region, .slice A1 t.eff.regs.length c1, .slice A2 t.eff.vars.length c2] 43)=Wn at *
   have hcall:=room0_any n3 Wn ρ x D0 D1 D2 d0 d1 d2 left d hR1 h0 h1 hd
   rw [←hrr] at hcall
   have HCALL:=Hd.mk hcall
   have z0:Wn.cell? ⟨bB,oB+nn*7,none⟩=some (.int .i64 x.kind):=hcA 0 _ rfl
   have z1:Wn.cell? ⟨bB,oB+nn*7+1,none⟩=some (.int .i64 x.n):=hcA 1 _ rfl
   have z2:Wn.cell? ⟨bB,oB+nn*7+2,none⟩=some (.string x.name):=hcA 2 _ rfl
   have z3:Wn.cell? ⟨bB,oB+nn*7+3,none⟩=some (.slice D0 x.args.length d0):=hcA 3 _ rfl
   have z4:Wn.cell? ⟨bB,oB+nn*7+4,none⟩=some (.int .i64 x.region):=hcA 4 _ rfl
   have z5:Wn.cell? ⟨bB,oB+nn*7+5,none⟩=some (.slice D1 x.eff.regs.length d1):=hcA 5 _ rfl
   have z6:Wn.cell? ⟨bB,oB+nn*7+6,none⟩=some (.slice D2 x.eff.vars.length d2):=hcA 6 _ rfl
   rw [←hWn] at z0 z1 z2 z3 z4 z5 z6 HCALL HS0
   clear hT hTA ih hlc hcm hr hle hrr hle2 hcall hcA hR1 hTa hvar hnn hk3 hWn HR1
   generalize x.kind=u0 at *
   generalize x.n=u1 at *
   generalize x.name=u2 at *
   generalize x.region=u4 at *
   go_enter Try.func59,Try.ntmps59
   go_wp2_with fail
   refine HCALL.out.mono ?_
   rintro e W3 ⟨rfl,hb⟩
   have HS3:=Hd.mk (HS0.out.of_below hb)
   clear hb HCALL z0 z1 z2 z3 z4 z5 z6
   go_wp2
   go_ret
   exact ⟨rfl,HS3.out.toBelow⟩
  ·have hkb3:(t.kind == 3)=false:=by simpa using hk3
   by_cases hdd:64<d
   ·have hddi:(64:Int)<d:=by omega
    have hrr:r= -1:=by rw [←HR.out,room1_eq left d hk3,if_pos hdd]
    subst hrr
    clear hT hTA ih hlc hcm hr hdd hle
    go_enter Try.func59,Try.ntmps59
    go_wp2
    go_ret
    exact ⟨rfl,HS0.out.toBelow⟩
   ·have hddi:¬(64:Int)<d:=by omega
    have hrr:room1L ag (left-1) (d+1) t.args=r:=by rw [←HR.out,room1_eq left d hk3,if_neg hdd]
    have HRR:=Hd.mk hrr
    clear hT hTA ih hlc hcm hr hrr hle
    go_enter Try.func59,Try.ntmps59
    go_wp2_with fail
    go_loopw [2,33] (fun vl vk wr=>∃ (k:Nat) (lf:Int),vk= .int .i64 k∧vl= .int .i64 lf∧k≤t.args.length∧room1L ag (left-1) (d+1) t.args=room1L ag lf (d+1) (t.args.drop k)∧ -1≤lf∧lf≤1000∧Step (fun _=>False) w ρ wr ρ) (fun _ v _=>t.args.length-(intOf v).toNat)
    case atStart=>exact ⟨0,left-1,by simp,rfl,by omega,by simp,by omega,by omega,HS0.out⟩
    case round =>
     obtain ⟨k,lf,rfl,rfl,hk,he,hb1,hb2,hS⟩:=hrel
     have HE0:=Hd.mk he
     have HS:=Hd.mk hS
     clear he hS
     by_cases hlt:k<t.args.length
     ·obtain ⟨b1,o1,m1,D0,d0,D1,d1,D2,d2,hA1,hm1,hR1,hTa,hcA⟩:=(HTA.out.step HS.out).elemC (List.getElem?_eq_getElem hlt)
      subst hA1
      have hdr:=drop_cons (List.getElem?_eq_getElem hlt)
      have hFX:=formedL_get (formed1_args HF.out) (List.getElem?_eq_getElem hlt)
      generalize t.args[k]=x at *
      have HFX:=Hd.mk hFX
      clear hFX
      have hE:=HE0.out
      rw [hdr,room1L] at hE
      have HE:=Hd.mk hE
      have HRX:=Hd.mk hR1
      have hlti:(k:Int)<t.args.length:=by omega
      clear hR1 hTa hdr hE HE0
      have hin:(Try.prog.info? 43).map (·.size)=some 7:=by kernel_rfl
      generalize hcs:tyCells x _ _ _=cs at hcA
      have hcl:cs.length=7:=by rw [←hcs];rfl
      have hone:cs.toArray.all (·.oneCell')=true:=by rw [←hcs];exact tyCells_one ..
      have hin2:(Try.prog.info? 43).map (·.size)=some cs.length:=by rw [hcl];exact hin
      have HSZ:Hd (cs.toArray.size=7):=⟨by rw [List.size_toArray,hcl]⟩
      have HCC:Hd (wr.rangeAt b1 (o1+k*7) cs):=⟨hcA⟩
      have HIN:=Hd.mk hin2
      have HON:=Hd.mk hone
      have HAA:=Hd.mk ((Step.refl (fun _=>False) wr ρ).alloc (.cells cs.toArray 43))
      have XS0:=Hd.mk (Blk.new' wr cs.toArray 43)
      have HCS:=Hd.mk hcs
      clear hcA hin hone hcs hin2 hcl
      go_wp2_with (first|(refine wpList_load_mid rfl 43 _ rfl b1 (o1+k*7) rfl cs _ HCC.out Try.underlying43 rfl HIN.out ?_)|(refine wpList_store_newV rfl 43 _ _ rfl _ cs.toArray rfl rfl (by rw [List.size_toArray];exact HIN.out) (by exact (Eq.trans rfl HSZ.out.symm)) HON.out ?_))
      refine ⟨?_⟩
      generalize wr.alloc (.cells cs.toArray 43)=W1 at *
      generalize wr.heap.size=X1 at *
      have xs0:Blk W1 X1 43 cs:=XS0.out
      rw [←HCS.out] at xs0
      have XSA:=Hd.mk xs0
      clear xs0 XS0 HCS HON HIN HCC HSZ
      have HS2:=HAA
      have y0:W1.cell? ⟨X1,0,none⟩=some (.int .i64 x.kind):=XSA.out.cell (i:=0) rfl
      have y1:W1.cell? ⟨X1,1,none⟩=some (.int .i64 x.n):=XSA.out.cell (i:=1) rfl
      have y2:W1.cell? ⟨X1,2,none⟩=some (.string x.name):=XSA.out.cell (i:=2) rfl
      have y3:W1.cell? ⟨X1,3,none⟩=some (.slice D0 x.args.length d0):=XSA.out.cell (i:=3) rfl
      have y4:W1.cell? ⟨X1,4,none⟩=some (.int .i64 x.region):=XSA.out.cell (i:=4) rfl
      have y5:W1.cell? ⟨X1,5,none⟩=some (.slice D1 x.eff.regs.length d1):=XSA.out.cell (i:=5) rfl
      have y6:W1.cell? ⟨X1,6,none⟩=some (.slice D2 x.eff.vars.length d2):=XSA.out.cell (i:=6) rfl
      by_cases hneg:lf<0
      ·have hE:=HE.out
       rw [if_pos hneg] at hE
       have hrr:r= -1:=by rw [←HRR.out,hE]
       subst hrr
       clear hE
       go_wp2
       go_ret
       exact ⟨rfl,(HS.out.trans HS2.out).toBelow⟩
      ·have hE:=HE.out
       rw [if_neg hneg] at hE
       have HE2:=Hd.mk hE
       have hrec:=HIH.out m (by omega) n3 ds ag B cb W1 ρ x D0 D1 D2 d0 d1 d2 lf (d+1) (TyR.step HS2.out _ HRX.out) (HB.out.step (HS.out.trans HS2.out)) HFX.out (by omega) hb2 (by omega)
       have ecast:((d+1:Nat):Int)=(d:Int)+1:=by omega
       rw [ecast] at hrec
       have hle2:=room1_le ag lf (d+1) x (by omega)
       obtain ⟨z,hz⟩:∃ z,room1 ag lf (d+1) x=z:=⟨_,rfl⟩
       rw [hz] at hrec hle2 HE2
       have HREC:=Hd.mk hrec
       clear hrec hz hE ecast HE
       generalize x.kind=u0 at *
       generalize x.n=u1 at *
       generalize x.name=u2 at *
       generalize x.region=u4 at *
       go_wp2_with fail
       refine HREC.out.mono ?_
       rintro e W3 ⟨rfl,hb⟩
       have HS3:=Hd.mk (HS2.out.of_below hb)
       clear hb HREC y0 y1 y2 y3 y4 y5 y6
       go_wp2
       go_roundw
       case rel=>exact ⟨k+1,z,by go_num,rfl,by omega,HE2.out,by omega,by omega,HS.out.trans HS3.out⟩
       case measure=>simp [intOf];omega
     ·have hke:k=t.args.length:=by omega
      subst hke
      have hE:=HE0.out
      rw [List.drop_length,room1L] at hE
      have hrr:r=lf:=by rw [←HRR.out,hE]
      subst hrr
      clear hE
      go_wp2
      go_ret
      exact ⟨rfl,HS.out.toBelow⟩
end
section
open Go Go.RowKit
structure FlatR {α:Type} (sz:Nat) (R:α→List Value→Prop) (l:List α) (xs:List Value):Prop where
 len:xs.length=l.length*sz
 get:∀ i x,l[i]? =some x→∃ cs,cs.length=sz∧R x cs∧∀ j u,cs[j]? =some u→xs[i*sz+j]? =some u
theorem FlatR.nil {α:Type} (sz:Nat) (R:α→List Value→Prop):FlatR sz R [] []:=⟨by simp,fun i x h=>by simp at h⟩
theorem FlatR.imp {α:Type} {sz:Nat} {R R':α→List Value→Prop} {l:List α} {xs:List Value} (h:FlatR sz R l xs) (hR:∀ x cs,x ∈ l→R x cs→R' x cs):FlatR sz R' l xs :=
 ⟨h.len,fun i x hi=>by
  obtain ⟨cs,h1,h2,h3⟩:=h.get i x hi
  exact ⟨cs,h1,hR x cs (List.mem_of_getElem? hi) h2,h3⟩⟩
theorem FlatR.snoc {α:Type} {sz:Nat} {R:α→List Value→Prop} {l:List α} {xs cs:List Value} {x:α} (h:FlatR sz R l xs) (hl:cs.length=sz) (hx:R x cs):FlatR sz R (l++[x]) (xs++cs):=by
 refine ⟨by rw [List.length_append,h.len,hl,List.length_append,Nat.add_mul];simp,fun i y hi=>?_⟩
 by_cases hlt:i<l.length
 ·rw [List.getElem?_append_left hlt] at hi
  obtain ⟨cs',h1,h2,h3⟩:=h.get i y hi
  refine ⟨cs',h1,h2,fun j u hj=>?_⟩
  have hj2:=h3 j u hj
  rw [List.getElem?_append_left (List.getElem?_eq_some_iff.1 hj2).1]
  exact hj2
 ·rw [List.getElem?_append_right (by omega)] at hi
  have hi0:i-l.length=0:=by
   have:=(List.getElem?_eq_some_iff.1 hi).1
   simp at this
   omega
  rw [hi0] at hi
  simp only [List.getElem?_cons_zero,Option.some.injEq] at hi
  subst hi
  have hie:i=l.length:=by omega
  subst hie
  refine ⟨cs,hl,hx,fun j u hj=>?_⟩
  rw [List.getElem?_append_right (by rw [h.len];omega),h.len,show l.length*sz+j-l.length*sz=j by omega]
  exact hj
theorem FlatR.slR {α:Type} {w:World} {ρ ρ0:Ghost} {t:Tag} {e:TypeId} {sz byt g n c:Nat} {R:α→List Value→Prop} {l:List α} {xs:List Value} (h:FlatR sz R l xs) (hO:OwnSl w ρ0 t e sz (.slice (some ⟨g,0,none⟩) n c) n xs) (hn:l.length=n) (hρ:ρ g=none) (hb:n*byt≤140737488355328) :
 SlR w ρ sz byt R (.slice (some ⟨g,0,none⟩) l.length c) l:=by
 subst hn
 rcases hO.2 with ⟨h0,_⟩|⟨g',cap,L,h0,hr,hbk,h1,h2,h3,h4⟩
 ·cases h0
 ·cases h0
  refine ⟨_,_,rfl,h1,h2,hb,fun i x hi=>?_⟩
  obtain ⟨cs,f1,f2,f3⟩:=h.get i x hi
  refine ⟨g,0,cs,rfl,hρ,hbk.lt,f1,f2,fun j u hj=>?_⟩
  have hx:=f3 j u hj
  have hlt:=(List.getElem?_eq_some_iff.1 hx).1
  rw [←h4,List.getElem?_take,if_pos (by rw [h.len] at hlt;exact hlt)] at hx
  rw [hbk.at,Nat.zero_add]
  exact hx
theorem SlR.ghost {α:Type} {w:World} {ρ ρ':Ghost} {sz byt:Nat} {R R':α→List Value→Prop} {v:Value} {l:List α} (h:SlR w ρ sz byt R v l) (hg:∀ b,ρ b=none→ρ' b=none) (hR:∀ x cs,x ∈ l→R x cs→R' x cs):SlR w ρ' sz byt R' v l:=by
 obtain ⟨A,c,h1,h2,h3,h4,h5⟩:=h.out
 refine ⟨A,c,h1,h2,h3,h4,fun i x hi=>?_⟩
 obtain ⟨b,o,cs,e1,e2,e3,e4,e5,e6⟩:=h5 i x hi
 exact ⟨b,o,cs,e1,hg b e2,e3,e4,hR x cs (List.mem_of_getElem? hi) e5,e6⟩
theorem TyR.ghost {w:World} {ρ ρ':Ghost} (hg:∀ b,ρ b=none→ρ' b=none):∀ (n:Nat) {t:Ty} {cs:List Value},TyR w ρ n t cs→TyR w ρ' n t cs
 |0,_,_,h=>h
 |n+1,t,cs,h=>by
  obtain ⟨va,v1,v2,h0,h1,h2,h3,h4,h5,h6,h7⟩:=h
  exact ⟨va,v1,v2,h0,h1,h2,h3,h4,h5.ghost hg (fun _ _ _ h=>TyR.ghost hg n h),h6.ghost hg (fun _ _ _ h=>h),h7.ghost hg (fun _ _ _ h=>h)⟩
theorem TysR.ghost {w:World} {ρ ρ':Ghost} {n:Nat} {v:Value} {l:List Ty} (h:TysR w ρ n v l) (hg:∀ b,ρ b=none→ρ' b=none):TysR w ρ' n v l:=SlR.ghost h hg (fun _ _ _ h=>TyR.ghost hg n h)
theorem OwnSl.retag {T:Tag→Prop} {w w':World} {ρ ρ':Ghost} {t:Tag} {e:TypeId} {sz n:Nat} {v:Value} {xs:List Value} (hO:OwnSl w' ρ' t e sz v n xs) (hs:Step T w ρ w' ρ') :
 ∃ ρ'',OwnSl w' ρ'' t e sz v n xs∧Step T w ρ w' ρ''∧∀ b,w.heap.size≤b→ρ'' b=none∨ρ'' b=Option.some t:=by
 rcases hO.2 with ⟨h0,h1⟩|⟨g,cap,L,h0,hr,hbk,h1,h2,h3,h4⟩
 ·refine ⟨fun b=>if b<w.heap.size then ρ' b else none,⟨hO.1, .inl ⟨h0,h1⟩⟩,⟨hs.os,hs.tape,hs.output,hs.size,fun k hk=>by rw [if_pos hk];exact hs.ghost k hk,hs.block,fun f k hk=>?_⟩,fun b hb=> .inl ?_⟩
  ·have:=hs.size
   show (if k<w.heap.size then ρ' k else none)=none
   rw [if_neg (by omega)]
  ·show (if b<w.heap.size then ρ' b else none)=none
   rw [if_neg (by omega)]
 ·refine ⟨fun b=>if b<w.heap.size then ρ' b else if b=g then Option.some t else none,⟨hO.1, .inr ⟨g,cap,L,h0,?_,hbk,h1,h2,h3,h4⟩⟩,⟨hs.os,hs.tape,hs.output,hs.size,fun k hk=>by rw [if_pos hk];exact hs.ghost k hk,hs.block,fun f k hk=>?_⟩,fun b hb=>?_⟩
  ·show (if g<w.heap.size then ρ' g else if g=g then Option.some t else none)=Option.some t
   split
   ·exact hr
   ·rw [if_pos rfl]
  ·have h5:=hs.size
   have h6:=hbk.lt
   show (if k<w.heap.size then ρ' k else if k=g then Option.some t else none)=none
   rw [if_neg (by omega),if_neg (by omega)]
  ·show (if b<w.heap.size then ρ' b else if b=g then Option.some t else none)=none∨(if b<w.heap.size then ρ' b else if b=g then Option.some t else none)=Option.some t
   rw [if_neg (by omega)]
   split
   ·exact .inr rfl
   ·exact .inl rfl
theorem Step.falsely {T:Tag→Prop} {w w':World} {ρ ρ':Ghost} (hs:Step T w ρ w' ρ') (hn:∀ b t,ρ b=some t→¬T t):Below w.heap.size w w' :=
 ⟨hs.os,hs.tape,hs.output,hs.size,fun k hk=>hs.block k hk (hn k)⟩
def Ty.setArgs (t:Ty) (l:List Ty):Ty:= .mk t.kind t.n t.name l t.region t.eff
theorem TyR.setArgs {w:World} {ρ:Ghost} {n N:Nat} {t:Ty} {va v1 v2 va':Value} {l':List Ty} (h:TyR w ρ n t (tyCells t va v1 v2)) (h':TysR w ρ N va' l'):TyR w ρ (N+1) (t.setArgs l') (tyCells t va' v1 v2):=by
 obtain ⟨m,_,_,_,rfl,hcs,h1,h2,h3,h4,h5,h6,h7⟩:=h.shape
 simp only [tyCells,List.cons.injEq,and_true,true_and] at hcs
 obtain ⟨rfl,rfl,rfl⟩:=hcs
 exact ⟨_,_,_,rfl,h1,h2,h3,h4,h',h6,h7⟩
theorem at1_var {ag:List Ty} {t x:Ty} {n:Nat} (h3:t.kind=3) (hn:t.n=n) (hx:ag[n]? =some x):at1 ag t=x:=by
 cases t with
 |mk k n' _ args _ _ =>
  simp only [Ty.kind] at h3
  simp only [Ty.n] at hn
  subst h3
  subst hn
  rw [at1,if_pos rfl]
  simp only [atVar,Int.toNat_natCast,hx]
theorem at1_eq {ag:List Ty} {t:Ty} (h:¬t.kind=3):at1 ag t=t.setArgs (atL ag t.args):=by
 cases t
 simp only [Ty.kind] at h
 rw [at1,if_neg h]
 rfl
theorem atL_map (ag l:List Ty):atL ag l=l.map (at1 ag):=by
 induction l with
 |nil=>rfl
 |cons t l ih=>rw [atL,ih];rfl
theorem atL_len (ag l:List Ty):(atL ag l).length=l.length:=by rw [atL_map,List.length_map]
theorem atL_take {ag l:List Ty} {k:Nat} {t:Ty} (h:l[k]? =some t):atL ag (l.take (k+1))=atL ag (l.take k)++[at1 ag t]:=by
 obtain ⟨hlt,he⟩:=List.getElem?_eq_some_iff.1 h
 rw [atL_map,atL_map,List.take_succ_eq_append_getElem hlt,List.map_append,he]
 rfl
theorem infoTy:(Try.prog.info? 43).map (fun i=>(i.zero,i.size,i.bytes))=some (some (.agg zeroTy.toArray),7,112):=by kernel_rfl
theorem OwnSl.made0 (w:World) (ρ:Ghost) (t:Tag) (e:TypeId) (sz c:Nat) (xs:Array Value) (hl:c*sz≤xs.size) (hm:c≤maxLen) :
 OwnSl (w.alloc (.cells xs e)) (ρ.put w.heap.size t) t e sz (.slice (Option.some ⟨w.heap.size,0,none⟩) 0 c) 0 [] :=
 ⟨by simp, .inr ⟨_,c,xs.toList,rfl,Ghost.put_same _ _ _,Blk.new' w xs e,Nat.zero_le _,hm,by simpa using hl,by simp⟩⟩
theorem makeTy (W:World) (k:Nat) (hk:k*112≤140737488355328):∃ xs:Array Value,(Instr.makeSlice 41 (.int .i64 0) (.int .i64 k)).run Try.prog W= .ok (.slice (some ⟨W.heap.size,0,none⟩) 0 k) (W.alloc (.cells xs 43))∧k*7≤xs.size:=by
 obtain ⟨i,hi,hzz⟩:=Option.map_eq_some_iff.1 infoTy
 simp only [Prod.mk.injEq] at hzz
 obtain ⟨hz0,hz1,hz2⟩:=hzz
 have h:=run_make (P:=Try.prog) (w:=W) 41 43 i _ Try.underlying41 hi hz0 .i64 .i64 0 (k:Int) (by omega) (by omega) (by rw [hz2];omega) (by omega)
 rw [hz1] at h
 simp only [Int.toNat_natCast,Int.toNat_zero] at h
 exact ⟨_,h,by simp [madeCells]⟩
def AtT (n:Nat):Tag→Prop:=fun t=>t=(32,2*n)∨t=(32,2*n+1)
def AtFree (n:Nat) (ρ:Ghost):Prop:=∀ b i,i<2*n→ρ b≠some (32,i)
theorem at_any (n:Nat):∀ (n3:Nat) (w:World) (ρ:Ghost) (ds:List Dat) (l ag:List Ty) (A B:Option Addr) (ca cb:Nat),TysR w ρ n (.slice A l.length ca) l→TysR w ρ n3 (.slice B ag.length cb) ag→formedL ds ag.length l=true→Fresh w ρ→AtFree (n+1) ρ →
 Calls Try.prog 60 #[.slice A l.length ca, .slice B ag.length cb] w fun e w'=>∃ A' c',e= .returned (.slice A' l.length c')∧TysR w' ρ (n+n3) (.slice A' l.length c') (atL ag l)∧Below w.heap.size w w':=by
 induction n using Nat.strongRecOn with
 |ind n ih =>
  intro n3 w ρ ds l ag A B ca cb hA hB hF hfr hno
  obtain ⟨A',c',hv,hlc,hcm⟩:=SlR.form hA
  cases hv
  have hby:l.length*112≤140737488355328:=by
   obtain ⟨_,_,hv,_,_,h4,_⟩:=hA.out
   exact h4
  obtain ⟨xs0,hmk,hxs0⟩:=makeTy w l.length hby
  have HM:=Hd.mk (OwnSl.made0 w ρ (32,2*n) 43 7 l.length xs0 hxs0 (by unfold maxLen;omega))
  have HSM:=Hd.mk ((Step.refl (AtT n) w ρ).alloc_tag (.cells xs0 43) (32,2*n))
  have hlen:l.length≤9223372036854775807:=by omega
  have HA:=Hd.mk hA
  have HB:=Hd.mk hB
  have HF:=Hd.mk hF
  have HIH:=Hd.mk ih
  have HFR:=Hd.mk hfr
  have HNO:=Hd.mk hno
  clear hA hB hF ih hlc hcm hfr hno hxs0
  go_enter Try.func60,Try.ntmps60
  go_wp2_with fail
  go_loopw [5,13] (fun vo vk wr=>∃ (k g c:Nat) (xs:List Value) (ρr:Ghost),vk= .int .i64 k∧vo= .slice (some ⟨g,0,none⟩) k c∧k≤l.length∧OwnSl wr ρr (32,2*n) 43 7 vo k xs∧FlatR 7 (TyR wr ρr (n+n3)) (atL ag (l.take k)) xs∧Step (AtT n) w ρ wr ρr∧AtFree n ρr) (fun _ v _=>l.length-(intOf v).toNat)
  case atStart=>exact ⟨0,w.heap.size,l.length,[],ρ.put w.heap.size (32,2*n),by simp,rfl,by omega,HM.out,by rw [List.take_zero,atL];exact FlatR.nil _ _,HSM.out,fun b i hi he=>by
   unfold Ghost.put at he
   split at he
   ·cases he;omega
   ·exact HNO.out b i (by omega) he⟩
  case round =>
   obtain ⟨k,g,c,xs,ρr,rfl,rfl,hk,hO,hFl,hS,hNO⟩:=hrel
   have HO:=Hd.mk hO
   have HFL:=Hd.mk hFl
   have HS:=Hd.mk hS
   have HNOr:=Hd.mk hNO
   clear hO hFl hS hNO hmk
   by_cases hlt:k<l.length
   ·have hlti:(k:Int)<l.length:=by omega
    have hkz:(0:Int)≤k:=by omega
    obtain ⟨b1,o1,m1,A0,c0,A1,c1,A2,c2,hA1,hm1,hR1,hTa,hcA⟩:=(HA.out.step HS.out).elemC (List.getElem?_eq_getElem hlt)
    have htk:=atL_take (ag:=ag) (List.getElem?_eq_getElem hlt)
    have hFT:=formedL_get HF.out (List.getElem?_eq_getElem hlt)
    subst hA1
    generalize l[k]=t at *
    have HTK:=Hd.mk htk
    have HFT:=Hd.mk hFT
    have HTA:=Hd.mk hTa
    have HR1:=Hd.mk hR1
    have HM1:=Hd.mk hm1
    clear hR1 hTa htk hFT hm1
    have hin:(Try.prog.info? 43).map (·.size)=some 7:=by kernel_rfl
    generalize hcs:tyCells t _ _ _=cs at hcA
    have hcl:cs.length=7:=by rw [←hcs];rfl
    have hone:cs.toArray.all (·.oneCell')=true:=by rw [←hcs];exact tyCells_one ..
    have hin2:(Try.prog.info? 43).map (·.size)=some cs.length:=by rw [hcl];exact hin
    have HSZ:Hd (cs.toArray.size=7):=⟨by rw [List.size_toArray,hcl]⟩
    have HCC:Hd (wr.rangeAt b1 (o1+k*7) cs):=⟨hcA⟩
    have HIN:=Hd.mk hin2
    have HON:=Hd.mk hone
    have HAA:=Hd.mk ((Step.refl (fun _=>False) wr ρr).alloc (.cells cs.toArray 43))
    have HTA1:=Hd.mk ((Step.refl (fun _=>False) wr ρr).alloc_tag (.cells cs.toArray 43) (32,2*n+1))
    have XS0:=Hd.mk (Blk.new' wr cs.toArray 43)
    have HCS:=Hd.mk hcs
    clear hcA hin hone hcs hin2 hcl
    go_wp2_with (first|(refine wpList_load_mid rfl 43 _ rfl b1 (o1+k*7) rfl cs _ HCC.out Try.underlying43 rfl HIN.out ?_)|(refine wpList_store_newV rfl 43 _ _ rfl _ cs.toArray rfl rfl (by rw [List.size_toArray];exact HIN.out) (by exact (Eq.trans rfl HSZ.out.symm)) HON.out ?_))
    refine ⟨?_⟩
    generalize wr.alloc (.cells cs.toArray 43)=W1 at *
    generalize wr.heap.size=X1 at *
    have xs0:Blk W1 X1 43 cs:=XS0.out
    rw [←HCS.out] at xs0
    have XSA:=Hd.mk xs0
    clear xs0 XS0 HCS HON HIN HCC HSZ
    have d0:W1.cell? ⟨X1,0,none⟩=some (.int .i64 t.kind):=XSA.out.cell (i:=0) rfl
    have d1:W1.cell? ⟨X1,1,none⟩=some (.int .i64 t.n):=XSA.out.cell (i:=1) rfl
    have HSA:Hd (Step (AtT n) wr ρr W1 (ρr.put X1 (32,2*n+1))):=⟨HTA1.out.mono (fun _ h=>h.elim)⟩
    have HNO4:Hd (AtFree n (ρr.put X1 (32,2*n+1))):=⟨fun b i hi he=>by
     unfold Ghost.put at he
     split at he
     ·cases he;omega
     ·exact HNOr.out b i hi he⟩
    have HX1:Hd (ρr.put X1 (32,2*n+1) X1=some (32,2*n+1)):=⟨Ghost.put_same _ _ _⟩
    have HTAa:=HTA
    generalize ρr.put X1 (32,2*n+1)=ρ1 at *
    by_cases hk3:t.kind=3
    ·have hvar:=formed1_var HFT.out hk3
     obtain ⟨nn,hnn⟩:=Int.eq_ofNat_of_zero_le hvar.1
     have hnl:nn<ag.length:=by have:=hvar.2;omega
     have hnl2:(nn:Int)<ag.length:=by omega
     have hn0:(0:Int)≤nn:=by omega
     have HS4:=Hd.mk (HS.out.trans HSA.out)
     obtain ⟨bB,oB,mB,D0,q0,D1,q1,D2,q2,hA2,hm2,hR2,hTb,hcB⟩:=(HB.out.step HS4.out).elemC (List.getElem?_eq_getElem hnl)
     subst hA2
     have hat:=at1_var hk3 hnn (List.getElem?_eq_getElem hnl)
     generalize ag[nn]=x at *
     have HAT:=Hd.mk hat
     have HR2:=Hd.mk hR2
     clear hm2
     have HO4:=Hd.mk (HO.out.step (HTA1.out) (fun h=>h))
     rw [hk3] at d0
     rw [hnn] at d1
     have z0:W1.cell? ⟨bB,oB+nn*7,none⟩=some (.int .i64 x.kind):=hcB 0 _ rfl
     have z1:W1.cell? ⟨bB,oB+nn*7+1,none⟩=some (.int .i64 x.n):=hcB 1 _ rfl
     have z2:W1.cell? ⟨bB,oB+nn*7+2,none⟩=some (.string x.name):=hcB 2 _ rfl
     have z3:W1.cell? ⟨bB,oB+nn*7+3,none⟩=some (.slice D0 x.args.length q0):=hcB 3 _ rfl
     have z4:W1.cell? ⟨bB,oB+nn*7+4,none⟩=some (.int .i64 x.region):=hcB 4 _ rfl
     have z5:W1.cell? ⟨bB,oB+nn*7+5,none⟩=some (.slice D1 x.eff.regs.length q1):=hcB 5 _ rfl
     have z6:W1.cell? ⟨bB,oB+nn*7+6,none⟩=some (.slice D2 x.eff.vars.length q2):=hcB 6 _ rfl
     clear hat hR2 hTb hcB hk3 hnn hvar
     go_wp2_with (at_builtin;refine wpList_append_boxW rfl _ _ _ rfl 43 _ 7 112 Try.underlying41 infoTy rfl (by decide) ρ1 (32,2*n) (.slice (some ⟨g,0,none⟩) k c) k xs [.int .i64 x.kind, .int .i64 x.n, .string x.name, .slice D0 x.args.length q0, .int .i64 x.region, .slice D1 x.eff.regs.length q1, .slice D2 x.eff.vars.length q2] rfl HO4.out 1 _ rfl (by first|rfl|simp) rfl (by simp [Value.oneCell']) (by unfold maxLen;omega) (by omega) ?z3)
     case z3 =>
     intro v1 W5 ρ5' hO5 hS5
     obtain ⟨ρ5,hO6,hS6,hN6⟩:=hO5.retag hS5
     obtain ⟨g5,c5,rfl,_⟩:=hO6.some (by omega)
     have HO6:=Hd.mk hO6
     have HS6:=Hd.mk hS6
     have HN6:=Hd.mk hN6
     clear hO5 hS5 hO6 hS6 hN6
     have hSf:=HS4.out.trans (HS6.out.mono (fun t h=>Or.inl h):Step (AtT n) _ _ W5 ρ5)
     have hno:AtFree n ρ5:=fun b i hi he=>by
      by_cases hb:b<W1.heap.size
      ·exact HNO4.out b i hi ((HS6.out.ghost b hb) ▸ he)
      ·rcases HN6.out b (by omega) with h|h <;> rw [h] at he <;> cases he
       omega
     clear z0 z1 z2 z3 z4 z5 z6 d0 d1
     have HSf:=Hd.mk hSf
     have HNO5:=Hd.mk hno
     clear hSf hno
     go_wp2
     go_roundw
     case rel =>
      refine ⟨k+1,g5,c5,_,ρ5,by go_num,rfl,by omega,HO6.out,?_,HSf.out,HNO5.out⟩
      rw [HTK.out,HAT.out]
      exact (HFL.out.imp (fun _ _ _ h=>TyR.step (HSA.out.trans (HS6.out.mono (fun t h=>Or.inl h))) _ h)).snoc rfl ((TyR.step HS6.out _ HR2.out).mono (by omega))
     case measure=>simp [intOf];omega
    ·have hkb3:(t.kind == 3)=false:=by simpa using hk3
     have d3:W1.cell? ⟨X1,3,none⟩=some (.slice A0 t.args.length c0):=XSA.out.cell (i:=3) rfl
     have hS4:=HS.out.trans HSA.out
     have hrec:=HIH.out m1 (by have:=HM1.out;omega) n3 W1 ρ1 ds t.args ag A0 B c0 cb (HTAa.out.step HSA.out) (HB.out.step hS4) (formed1_args HFT.out) (hS4.fresh HFR.out) (fun b i hi=>HNO4.out b i (by have:=HM1.out;omega))
     have HREC:=Hd.mk hrec
     have HS3:=Hd.mk hS4
     clear hrec hS4
     have HK3:=Hd.mk hk3
     go_wp2_with fail
     refine HREC.out.mono ?_
     rintro e W3 ⟨An,cn,rfl,hTn,hbl⟩
     have hs3:=Step.ofBelow ρ1 hbl
     have XS3:=Hd.mk (hs3.blk XSA.out (fun _ _ h=>h))
     have d0':W3.cell? ⟨X1,0,none⟩=some (.int .i64 t.kind):=XS3.out.cell (i:=0) rfl
     have d1':W3.cell? ⟨X1,1,none⟩=some (.int .i64 t.n):=XS3.out.cell (i:=1) rfl
     have d2':W3.cell? ⟨X1,2,none⟩=some (.string t.name):=XS3.out.cell (i:=2) rfl
     have d3':W3.cell? ⟨X1,3,none⟩=some (.slice A0 t.args.length c0):=XS3.out.cell (i:=3) rfl
     have d4':W3.cell? ⟨X1,4,none⟩=some (.int .i64 t.region):=XS3.out.cell (i:=4) rfl
     have d5':W3.cell? ⟨X1,5,none⟩=some (.slice A1 t.eff.regs.length c1):=XS3.out.cell (i:=5) rfl
     have d6':W3.cell? ⟨X1,6,none⟩=some (.slice A2 t.eff.vars.length c2):=XS3.out.cell (i:=6) rfl
     have fz:=XS3.out.free 3
     have hs4:Step (AtT n) W3 ρ1 (W3.setCell ⟨X1,3,none⟩ (.slice An t.args.length cn)) ρ1:=(Step.refl (AtT n) W3 ρ1).setCell (a:=⟨X1,3,none⟩) (hs3.tag XSA.out.lt HX1.out) (Or.inr rfl) _
     have HTN:=Hd.mk (hTn.step hs4)
     have HS34:=Hd.mk ((hs3.mono (fun _ h=>h.elim):Step (AtT n) W1 ρ1 W3 ρ1).trans hs4)
     have HS4:=Hd.mk (HS3.out.trans HS34.out)
     have HO4:=Hd.mk (((HO.out.step HTA1.out (fun h=>h)).step hs3 (fun h=>h)).set_ne (a:=⟨X1,3,none⟩) (.slice An t.args.length cn) (by rw [hs3.tag XSA.out.lt HX1.out];simp))
     have HR2:=Hd.mk (TyR.setArgs (TyR.step (HSA.out.trans HS34.out) _ HR1.out) HTN.out)
     clear hbl hs3 hs4 hTn HREC d0 d1 d3 hkb3 hk3
     generalize hWn:W3.setCell ⟨X1,3,none⟩ (.slice An t.args.length cn)=Wn at HO4 HS4 HS34 HTN HR2
     subst hWn
     go_wp2_with (at_builtin;refine wpList_append_boxW rfl _ _ _ rfl 43 _ 7 112 Try.underlying41 infoTy rfl (by decide) ρ1 (32,2*n) (.slice (some ⟨g,0,none⟩) k c) k xs [.int .i64 t.kind, .int .i64 t.n, .string t.name, .slice An t.args.length cn, .int .i64 t.region, .slice A1 t.eff.regs.length c1, .slice A2 t.eff.vars.length c2] rfl HO4.out 1 _ rfl (by first|rfl|simp) rfl (by simp [Value.oneCell']) (by unfold maxLen;omega) (by omega) ?zo)
     case zo =>
     intro v1 W5 ρ5' hO5 hS5
     obtain ⟨ρ5,hO6,hS6,hN6⟩:=hO5.retag hS5
     obtain ⟨g5,c5,rfl,_⟩:=hO6.some (by omega)
     have HO6:=Hd.mk hO6
     have HS6:=Hd.mk hS6
     have HN6:=Hd.mk hN6
     clear hO5 hS5 hO6 hS6 hN6
     have hSf:=HS4.out.trans (HS6.out.mono (fun t h=>Or.inl h):Step (AtT n) _ _ W5 ρ5)
     have hno:AtFree n ρ5:=fun b i hi he=>by
      by_cases hb:b<(W3.setCell ⟨X1,3,none⟩ (.slice An t.args.length cn)).heap.size
      ·exact HNO4.out b i hi ((HS6.out.ghost b hb) ▸ he)
      ·rcases HN6.out b (by omega) with h|h <;> rw [h] at he <;> cases he
       omega
     clear d0' d1' d2' d3' d4' d5' d6' fz
     have HSf:=Hd.mk hSf
     have HNO5:=Hd.mk hno
     clear hSf hno
     go_wp2
     go_roundw
     case rel =>
      refine ⟨k+1,g5,c5,_,ρ5,by go_num,rfl,by omega,HO6.out,?_,HSf.out,HNO5.out⟩
      rw [HTK.out,at1_eq HK3.out]
      exact (HFL.out.imp (fun _ _ _ h=>TyR.step ((HSA.out.trans HS34.out).trans (HS6.out.mono (fun t h=>Or.inl h))) _ h)).snoc rfl ((TyR.step HS6.out _ HR2.out).mono (by have:=HM1.out;omega))
     case measure=>simp [intOf];omega
   ·have hke:k=l.length:=by omega
    subst hke
    have hbel:Below w.heap.size w wr:=HS.out.falsely (fun b t hb ht=>by rcases ht with rfl|rfl <;> exact HNO.out b _ (by omega) hb)
    have hgg:∀ b,ρr b=none→ρ b=none:=fun b hb=>by
     by_cases hlt:b<w.heap.size
     ·rw [←HS.out.ghost b hlt];exact hb
     ·exact HFR.out b (by omega)
    have hgn:ρ g=none:=by
     by_cases hlt:g<w.heap.size
     ·rcases HO.out.2 with ⟨h0,_⟩|⟨g',cap,L,h0,hr,_⟩
      ·cases h0
      ·cases h0
       rw [HS.out.ghost g hlt] at hr
       exact absurd hr (HNO.out g _ (by omega))
     ·exact HFR.out g (by omega)
    have hres:=(HFL.out.imp (R':=TyR wr ρ (n+n3)) (fun _ _ _ h=>TyR.ghost hgg _ h)).slR (ρ:=ρ) (byt:=112) HO.out (by rw [atL_len,List.length_take];omega) hgn hby
    rw [List.take_length,atL_len] at hres
    have HRES:=Hd.mk hres
    have HBEL:=Hd.mk hbel
    clear hres hbel hgg hgn
    go_wp2
    go_ret
    exact ⟨_,_,rfl,HRES.out,HBEL.out⟩
end
end Go.Proofs.Ytadffbgbndibpaa
