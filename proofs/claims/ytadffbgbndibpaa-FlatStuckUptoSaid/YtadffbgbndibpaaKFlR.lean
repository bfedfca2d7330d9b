/- FlM, FlR: lemmas and walks of the claim. -/
import Derived.Test.YtadffbgbndibpaaKFlP
import Derived.Test.YtadffbgbndibpaaKFlS
set_option linter.unusedVariables false
set_option linter.unusedSimpArgs false
set_option maxHeartbeats 16000000
set_option maxRecDepth 100000
namespace Go.Proofs.Ytadffbgbndibpaa
section
open Go Go.RowKit
theorem formed_any (n:Nat):∀ (w:World) (ρ:Ghost) (ds:List Dat) (l:List Ty) (Ad:Option Addr) (cd nd:Nat) (A:Option Addr) (c:Nat) (vars:Int),DatsR w ρ nd (.slice Ad ds.length cd) ds→TysR w ρ n (.slice A l.length c) l→I64 vars →
 Calls Try.prog 24 #[.slice Ad ds.length cd, .slice A l.length c, .int .i64 vars] w fun e w'=>e= .returned (.bool (formedL ds vars l))∧Below w.heap.size w w':=by
 induction n using Nat.strongRecOn with
 |ind n ih =>
  intro w ρ ds l Ad cd nd A c vars hDS hT hvars
  obtain ⟨A',c',hv,hlc,hcm⟩:=SlR.form hT
  cases hv
  have hlen:l.length≤9223372036854775807:=by unfold maxLen at hcm;omega
  have HT:=Hd.mk hT
  have HDS:=Hd.mk hDS
  have HIH:=Hd.mk (fun m hm w ρ ds l Ad cd nd A c vars=>ih m hm w ρ ds l Ad cd nd A c vars)
  obtain ⟨r,hr⟩:∃ z,formedL ds vars l=z:=⟨_,rfl⟩
  rw [hr]
  have HR:=Hd.mk hr
  clear hT hDS ih hlc hcm hr
  go_enter Try.func24,Try.ntmps24
  go_wp2_with fail
  go_loopw [12] (fun vk wr=>∃ (k:Nat),vk= .int .i64 k∧k≤l.length∧formedL ds vars l=formedL ds vars (l.drop k)∧Step (fun _=>False) w ρ wr ρ) (fun v _=>l.length-(intOf v).toNat)
  case atStart=>exact ⟨0,by simp,by omega,by simp,Step.refl _ _ _⟩
  case round =>
   obtain ⟨k,rfl,hk,he,hS⟩:=hrel
   have HE0:=Hd.mk he
   have HS:=Hd.mk hS
   clear he hS
   by_cases hlt:k<l.length
   ·obtain ⟨b1,o,m1,A0,c0,A1,c1,A2,c2,hA,hnm1,hR1,hTa,hc⟩:=(HT.out.step HS.out).elemC (List.getElem?_eq_getElem hlt)
    subst hA
    have hdr:=formedL_drop (ds:=ds) (vars:=vars) (List.getElem?_eq_getElem hlt)
    generalize l[k]=t at *
    have HE:=Hd.mk (HE0.out.trans hdr)
    have HTA:=Hd.mk hTa
    clear hR1 hdr hTa HE0
    have hin:(Try.prog.info? 43).map (·.size)=some 7:=by kernel_rfl
    generalize hcs:tyCells t _ _ _=cs at hc
    have hcl:cs.length=7:=by rw [←hcs];rfl
    have hone:cs.toArray.all (·.oneCell')=true:=by rw [←hcs];exact tyCells_one ..
    have hin2:(Try.prog.info? 43).map (·.size)=some cs.length:=by rw [hcl];exact hin
    have HSZ:Hd (cs.toArray.size=7):=⟨by rw [List.size_toArray,hcl]⟩
    have HCC:Hd (wr.rangeAt b1 (o+k*7) cs):=⟨hc⟩
    have HIN:=Hd.mk hin2
    have HON:=Hd.mk hone
    have HS1:=Hd.mk ((Step.refl (fun _=>False) wr ρ).alloc (.cells cs.toArray 43))
    have XS0:=Hd.mk (Blk.new' wr cs.toArray 43)
    have HCS:=Hd.mk hcs
    clear hc hin hone hcs hin2
    go_wp2_with (first|(refine wpList_load_mid rfl 43 _ rfl b1 (o+k*7) rfl cs _ HCC.out Try.underlying43 rfl HIN.out ?_)|(refine wpList_store_newV rfl 43 _ _ rfl _ cs.toArray rfl rfl (by rw [List.size_toArray];exact HIN.out) (by exact (Eq.trans rfl HSZ.out.symm)) HON.out ?_))
    refine ⟨?_⟩
    generalize wr.alloc (.cells cs.toArray 43)=W1 at *
    generalize wr.heap.size=Xs at *
    have xs0:Blk W1 Xs 43 cs:=XS0.out
    rw [←HCS.out] at xs0
    have XS:=Hd.mk xs0
    clear xs0
    have HSL:=Hd.mk HS1.out
    have hemp:=emptyToList
    have d0:W1.cell? ⟨Xs,0,none⟩=some (.int .i64 t.kind):=XS.out.cell (i:=0) rfl
    have d1:W1.cell? ⟨Xs,1,none⟩=some (.int .i64 t.n):=XS.out.cell (i:=1) rfl
    have d2:W1.cell? ⟨Xs,2,none⟩=some (.string t.name):=XS.out.cell (i:=2) rfl
    have d3:W1.cell? ⟨Xs,3,none⟩=some (.slice A0 t.args.length c0):=XS.out.cell (i:=3) rfl
    have d4:W1.cell? ⟨Xs,4,none⟩=some (.int .i64 t.region):=XS.out.cell (i:=4) rfl
    have d5:W1.cell? ⟨Xs,5,none⟩=some (.slice A1 t.eff.regs.length c1):=XS.out.cell (i:=5) rfl
    have d6:W1.cell? ⟨Xs,6,none⟩=some (.slice A2 t.eff.vars.length c2):=XS.out.cell (i:=6) rfl
    have hkm:(∃ M:Nat,(t.kind=0∧M=0)∨(t.kind=1∧M=0)∨(t.kind=2∧M=0)∨(t.kind=6∧M=2)∨(t.kind=7∧M=1)∨(t.kind=8∧M=1))∨t.kind=3∨t.kind=4∨t.kind=5∨¬(0≤t.kind∧t.kind≤8):=by
     by_cases h:t.kind=6
     ·exact .inl ⟨2,by omega⟩
     by_cases h:t.kind=7∨t.kind=8
     ·exact .inl ⟨1,by omega⟩
     by_cases h:t.kind=0∨t.kind=1∨t.kind=2
     ·exact .inl ⟨0,by omega⟩
     omega
    rcases hkm with ⟨M,hkm⟩|hk|hk|hk|hk
    case' inl =>
     rcases hkm with ⟨hk,hM⟩|⟨hk,hM⟩|⟨hk,hM⟩|⟨hk,hM⟩|⟨hk,hM⟩|⟨hk,hM⟩
     all_goals (
      have HK:Hd (manyOf ds t.kind t.n t.args.length vars=some M):=⟨by rw [hk,hM];simp [manyOf]⟩
      have HK0:=Hd.mk hk
      rw [hk] at d0
      clear hk
      by_cases hn0:t.n=0
      case' neg =>
       have hnb0:(t.n == 0)=false:=by simpa using hn0
       have HN0:=Hd.mk hn0
       subst hM
       have hff:formed1 ds vars t=false:=by rw [formed1_eq,HK.out];simp [HN0.out,HK0.out]
       have hrf:r=false:=by rw [←HR.out,HE.out,hff,Bool.false_and]
       subst hrf
       clear hff
       go_wp2
       all_goals go_ret
       all_goals exact ⟨rfl,(HS.out.trans HSL.out).toBelow⟩
      case' pos =>
       have HNZ:Hd ((!(decide (t.kind≠3) && decide (t.kind≠4) && decide (t.n≠0)))=true):=⟨by simp [hn0]⟩
       have hd1:W1.cell? ⟨Xs,1,none⟩=some (.int .i64 0):=by rw [←hn0];exact d1
       clear d1 hn0
       by_cases hla:t.args.length=M
       case' pos =>
        have hlai:((t.args.length:Nat):Int)=((M:Nat):Int):=by omega
        by_cases hnm:t.name.toList=[]
        case' neg =>
         have hnb:(t.name.toList == [])=false:=by simpa using hnm
         have hsz0:¬t.name.size=0:=fun h=>hnm (toList_of_size h)
         have HSZ0:=Hd.mk hsz0
         clear hsz0
         try subst hM
         have hff:formed1 ds vars t=false:=by rw [formed1_eq,HK.out];simp [HSZ0.out]
         have hrf:r=false:=by rw [←HR.out,HE.out,hff,Bool.false_and]
         subst hrf
         clear hff
         go_wp2
         all_goals go_ret
         all_goals exact ⟨rfl,(HS.out.trans HSL.out).toBelow⟩
        case' pos =>
         by_cases hrg:t.region=0
         case' neg =>
          have hrb:(t.region == 0)=false:=by simpa using hrg
          have HRG:=Hd.mk hrg
          try subst hM
          have hff:formed1 ds vars t=false:=by rw [formed1_eq,HK.out];simp [HRG.out]
          have hrf:r=false:=by rw [←HR.out,HE.out,hff,Bool.false_and]
          subst hrf
          clear hff
          go_wp2
          all_goals go_ret
          all_goals exact ⟨rfl,(HS.out.trans HSL.out).toBelow⟩
         case' pos =>
          have hd4:W1.cell? ⟨Xs,4,none⟩=some (.int .i64 0):=by rw [←hrg];exact d4
          have HFF:Hd (formed1 ds vars t=(t.eff.empty && formedL ds vars t.args)):=⟨by rw [formed1_eq,HK.out];dsimp only;rw [HNZ.out];simp [hla,size_of_toList hnm,hrg]⟩
          clear d4 hla hrg
       case' neg =>
        have hlai:¬((t.args.length:Nat):Int)=((M:Nat):Int):=by omega
        have hlab:(((t.args.length:Nat):Int) == ((M:Nat):Int))=false:=by simpa using hlai
        have HLA:=Hd.mk hla
        try subst hM
        have hff:formed1 ds vars t=false:=by rw [formed1_eq,HK.out];simp [HLA.out]
        have hrf:r=false:=by rw [←HR.out,HE.out,hff,Bool.false_and]
        subst hrf
        clear hff
        go_wp2
        all_goals go_ret
        all_goals exact ⟨rfl,(HS.out.trans HSL.out).toBelow⟩)
    case' inr.inl =>
     have HK0:=Hd.mk hk
     rw [hk] at d0
     have HNZ:Hd ((!(decide (t.kind≠3) && decide (t.kind≠4) && decide (t.n≠0)))=true):=⟨by simp [HK0.out]⟩
     clear hk
     by_cases hlo:t.n<0
     case' pos =>
      have HK:Hd (manyOf ds t.kind t.n t.args.length vars=none):=⟨by rw [HK0.out];simp [manyOf,hlo]⟩
      have hff:formed1 ds vars t=false:=by rw [formed1_eq,HK.out]
      have hrf:r=false:=by rw [←HR.out,HE.out,hff,Bool.false_and]
      subst hrf
      clear hff
      go_wp2
      all_goals go_ret
      all_goals exact ⟨rfl,(HS.out.trans HSL.out).toBelow⟩
     case' neg =>
      by_cases hhi:vars≤t.n
      case' pos =>
       have HK:Hd (manyOf ds t.kind t.n t.args.length vars=none):=⟨by rw [HK0.out];simp [manyOf,hhi]⟩
       have hff:formed1 ds vars t=false:=by rw [formed1_eq,HK.out]
       have hrf:r=false:=by rw [←HR.out,HE.out,hff,Bool.false_and]
       subst hrf
       clear hff
       go_wp2
       all_goals go_ret
       all_goals exact ⟨rfl,(HS.out.trans HSL.out).toBelow⟩
      case' neg =>
       have HK:Hd (manyOf ds t.kind t.n t.args.length vars=some 0):=⟨by rw [HK0.out];simp [manyOf,hhi,hlo]⟩
       have hhi2:t.n<vars:=by omega
       by_cases hla:t.args.length=0
       case' pos =>
        have hlai:((t.args.length:Nat):Int)=((0:Nat):Int):=by omega
        by_cases hnm:t.name.toList=[]
        case' neg =>
         have hnb:(t.name.toList == [])=false:=by simpa using hnm
         have hsz0:¬t.name.size=0:=fun h=>hnm (toList_of_size h)
         have HSZ0:=Hd.mk hsz0
         clear hsz0
         try subst hM
         have hff:formed1 ds vars t=false:=by rw [formed1_eq,HK.out];simp [HSZ0.out]
         have hrf:r=false:=by rw [←HR.out,HE.out,hff,Bool.false_and]
         subst hrf
         clear hff
         go_wp2
         all_goals go_ret
         all_goals exact ⟨rfl,(HS.out.trans HSL.out).toBelow⟩
        case' pos =>
         by_cases hrg:t.region=0
         case' neg =>
          have hrb:(t.region == 0)=false:=by simpa using hrg
          have HRG:=Hd.mk hrg
          try subst hM
          have hff:formed1 ds vars t=false:=by rw [formed1_eq,HK.out];simp [HRG.out]
          have hrf:r=false:=by rw [←HR.out,HE.out,hff,Bool.false_and]
          subst hrf
          clear hff
          go_wp2
          all_goals go_ret
          all_goals exact ⟨rfl,(HS.out.trans HSL.out).toBelow⟩
         case' pos =>
          have hd4:W1.cell? ⟨Xs,4,none⟩=some (.int .i64 0):=by rw [←hrg];exact d4
          have HFF:Hd (formed1 ds vars t=(t.eff.empty && formedL ds vars t.args)):=⟨by rw [formed1_eq,HK.out];dsimp only;rw [HNZ.out];simp [hla,size_of_toList hnm,hrg]⟩
          clear d4 hla hrg
       case' neg =>
        have hlai:¬((t.args.length:Nat):Int)=((0:Nat):Int):=by omega
        have hlab:(((t.args.length:Nat):Int) == ((0:Nat):Int))=false:=by simpa using hlai
        have HLA:=Hd.mk hla
        try subst hM
        have hff:formed1 ds vars t=false:=by rw [formed1_eq,HK.out];simp [HLA.out]
        have hrf:r=false:=by rw [←HR.out,HE.out,hff,Bool.false_and]
        subst hrf
        clear hff
        go_wp2
        all_goals go_ret
        all_goals exact ⟨rfl,(HS.out.trans HSL.out).toBelow⟩
    case' inr.inr.inl =>
     have HK0:=Hd.mk hk
     rw [hk] at d0
     have HNZ:Hd ((!(decide (t.kind≠3) && decide (t.kind≠4) && decide (t.n≠0)))=true):=⟨by simp [HK0.out]⟩
     clear hk
     by_cases hlo:t.n<0
     case' pos =>
      have HK:Hd (manyOf ds t.kind t.n t.args.length vars=none):=⟨by rw [HK0.out];simp [manyOf,hlo]⟩
      have hff:formed1 ds vars t=false:=by rw [formed1_eq,HK.out]
      have hrf:r=false:=by rw [←HR.out,HE.out,hff,Bool.false_and]
      subst hrf
      clear hff
      go_wp2
      all_goals go_ret
      all_goals exact ⟨rfl,(HS.out.trans HSL.out).toBelow⟩
     case' neg =>
      obtain ⟨nn,hnn⟩:=Int.eq_ofNat_of_zero_le (show 0≤t.n by omega)
      replace d1:W1.cell? ⟨Xs,1,none⟩=some (.int .i64 (nn:Int)):=by rw [←hnn];exact d1
      have hlo2:¬(nn:Int)<0:=by omega
      by_cases hhi:ds.length≤nn
      case' pos =>
       have HK:Hd (manyOf ds t.kind t.n t.args.length vars=none):=⟨by rw [HK0.out,hnn];simp [manyOf];omega⟩
       have hhi2:((ds.length:Nat):Int)≤(nn:Int):=by omega
       clear hnn hlo
       have hff:formed1 ds vars t=false:=by rw [formed1_eq,HK.out]
       have hrf:r=false:=by rw [←HR.out,HE.out,hff,Bool.false_and]
       subst hrf
       clear hff
       go_wp2
       all_goals go_ret
       all_goals exact ⟨rfl,(HS.out.trans HSL.out).toBelow⟩
      case' neg =>
       have hlt2:nn<ds.length:=by omega
       obtain ⟨bD,oD,A7,c7,A8,c8,hAd,_,_,_,q1,_⟩:=(HDS.out.step (HS.out.trans HSL.out)).elem (List.getElem?_eq_getElem hlt2)
       have hget:ds[nn]? =some ds[nn]:=List.getElem?_eq_getElem hlt2
       generalize ds[nn]=dd at *
       have HK:Hd (manyOf ds t.kind t.n t.args.length vars=some dd.vars.length):=⟨by rw [HK0.out,hnn];simp [manyOf,hhi,hget]⟩
       have hhi2:(nn:Int)<((ds.length:Nat):Int):=by omega
       have hlo3:(0:Int)≤(nn:Int):=by omega
       subst hAd
       clear hnn hget hlo
       by_cases hla:t.args.length=dd.vars.length
       case' pos =>
        have hlai:((t.args.length:Nat):Int)=((dd.vars.length:Nat):Int):=by omega
        by_cases hnm:t.name.toList=[]
        case' neg =>
         have hnb:(t.name.toList == [])=false:=by simpa using hnm
         have hsz0:¬t.name.size=0:=fun h=>hnm (toList_of_size h)
         have HSZ0:=Hd.mk hsz0
         clear hsz0
         try subst hM
         have hff:formed1 ds vars t=false:=by rw [formed1_eq,HK.out];simp [HSZ0.out]
         have hrf:r=false:=by rw [←HR.out,HE.out,hff,Bool.false_and]
         subst hrf
         clear hff
         go_wp2
         all_goals go_ret
         all_goals exact ⟨rfl,(HS.out.trans HSL.out).toBelow⟩
        case' pos =>
         by_cases hrg:t.region=0
         case' neg =>
          have hrb:(t.region == 0)=false:=by simpa using hrg
          have HRG:=Hd.mk hrg
          try subst hM
          have hff:formed1 ds vars t=false:=by rw [formed1_eq,HK.out];simp [HRG.out]
          have hrf:r=false:=by rw [←HR.out,HE.out,hff,Bool.false_and]
          subst hrf
          clear hff
          go_wp2
          all_goals go_ret
          all_goals exact ⟨rfl,(HS.out.trans HSL.out).toBelow⟩
         case' pos =>
          have hd4:W1.cell? ⟨Xs,4,none⟩=some (.int .i64 0):=by rw [←hrg];exact d4
          have HFF:Hd (formed1 ds vars t=(t.eff.empty && formedL ds vars t.args)):=⟨by rw [formed1_eq,HK.out];dsimp only;rw [HNZ.out];simp [hla,size_of_toList hnm,hrg]⟩
          clear d4 hla hrg
       case' neg =>
        have hlai:¬((t.args.length:Nat):Int)=((dd.vars.length:Nat):Int):=by omega
        have hlab:(((t.args.length:Nat):Int) == ((dd.vars.length:Nat):Int))=false:=by simpa using hlai
        have HLA:=Hd.mk hla
        try subst hM
        have hff:formed1 ds vars t=false:=by rw [formed1_eq,HK.out];simp [HLA.out]
        have hrf:r=false:=by rw [←HR.out,HE.out,hff,Bool.false_and]
        subst hrf
        clear hff
        go_wp2
        all_goals go_ret
        all_goals exact ⟨rfl,(HS.out.trans HSL.out).toBelow⟩
    case' inr.inr.inr.inl =>
     have HK0:=Hd.mk hk
     have hkm:=fun (x:Nat)=>show manyOf ds t.kind t.n x vars=some (max 2 x) by rw [hk];simp [manyOf]
     rw [hk] at d0
     clear hk
     by_cases hn0:t.n=0
     case' neg =>
      have HK:=Hd.mk (hkm t.args.length)
      have hnb0:(t.n == 0)=false:=by simpa using hn0
      have HN0:=Hd.mk hn0
      clear hkm
      have hff:formed1 ds vars t=false:=by rw [formed1_eq,HK.out];simp [HN0.out,HK0.out]
      have hrf:r=false:=by rw [←HR.out,HE.out,hff,Bool.false_and]
      subst hrf
      clear hff
      go_wp2
      all_goals go_ret
      all_goals exact ⟨rfl,(HS.out.trans HSL.out).toBelow⟩
     case' pos =>
      have HNZ:Hd ((!(decide (t.kind≠3) && decide (t.kind≠4) && decide (t.n≠0)))=true):=⟨by simp [hn0]⟩
      have hd1:W1.cell? ⟨Xs,1,none⟩=some (.int .i64 0):=by rw [←hn0];exact d1
      clear d1 hn0
      have HK:=Hd.mk (hkm t.args.length)
      clear hkm
      by_cases hla:2≤t.args.length
      case' neg =>
       have hla3:¬((t.args.length:Nat):Int)=2:=by omega
       have hla2:((t.args.length:Nat):Int)≤2:=by omega
       have HLA:Hd (¬t.args.length=max 2 t.args.length):=⟨by omega⟩
       have hff:formed1 ds vars t=false:=by rw [formed1_eq,HK.out];simp [HLA.out]
       have hrf:r=false:=by rw [←HR.out,HE.out,hff,Bool.false_and]
       subst hrf
       clear hff
       go_wp2
       all_goals go_ret
       all_goals exact ⟨rfl,(HS.out.trans HSL.out).toBelow⟩
      case' pos =>
       rw [show max 2 t.args.length=t.args.length by omega] at HK
       by_cases h22:t.args.length=2
       case' pos =>
        have hlai:((t.args.length:Nat):Int)=((2:Nat):Int):=by omega
       case' neg =>
        have hla2:¬((t.args.length:Nat):Int)≤2:=by omega
        have hla5:(2:Int)<((t.args.length:Nat):Int):=by omega
       all_goals (
        clear h22
        by_cases hnm:t.name.toList=[]
        case' neg =>
         have hnb:(t.name.toList == [])=false:=by simpa using hnm
         have hsz0:¬t.name.size=0:=fun h=>hnm (toList_of_size h)
         have HSZ0:=Hd.mk hsz0
         clear hsz0
         try subst hM
         have hff:formed1 ds vars t=false:=by rw [formed1_eq,HK.out];simp [HSZ0.out]
         have hrf:r=false:=by rw [←HR.out,HE.out,hff,Bool.false_and]
         subst hrf
         clear hff
         go_wp2
         all_goals go_ret
         all_goals exact ⟨rfl,(HS.out.trans HSL.out).toBelow⟩
        case' pos =>
         by_cases hrg:t.region=0
         case' neg =>
          have hrb:(t.region == 0)=false:=by simpa using hrg
          have HRG:=Hd.mk hrg
          try subst hM
          have hff:formed1 ds vars t=false:=by rw [formed1_eq,HK.out];simp [HRG.out]
          have hrf:r=false:=by rw [←HR.out,HE.out,hff,Bool.false_and]
          subst hrf
          clear hff
          go_wp2
          all_goals go_ret
          all_goals exact ⟨rfl,(HS.out.trans HSL.out).toBelow⟩
         case' pos =>
          have hd4:W1.cell? ⟨Xs,4,none⟩=some (.int .i64 0):=by rw [←hrg];exact d4
          have HFF:Hd (formed1 ds vars t=(t.eff.empty && formedL ds vars t.args)):=⟨by rw [formed1_eq,HK.out];dsimp only;rw [HNZ.out];simp [hla,size_of_toList hnm,hrg]⟩
          clear d4 hla hrg)
    case' inr.inr.inr.inr =>
     have hk0:¬t.kind=0:=by omega
     have hkb0:(t.kind == 0)=false:=by simpa using hk0
     have hk1:¬t.kind=1:=by omega
     have hkb1:(t.kind == 1)=false:=by simpa using hk1
     have hk2:¬t.kind=2:=by omega
     have hkb2:(t.kind == 2)=false:=by simpa using hk2
     have hk3:¬t.kind=3:=by omega
     have hkb3:(t.kind == 3)=false:=by simpa using hk3
     have hk4:¬t.kind=4:=by omega
     have hkb4:(t.kind == 4)=false:=by simpa using hk4
     have hk5:¬t.kind=5:=by omega
     have hkb5:(t.kind == 5)=false:=by simpa using hk5
     have hk6:¬t.kind=6:=by omega
     have hkb6:(t.kind == 6)=false:=by simpa using hk6
     have hk7:¬t.kind=7:=by omega
     have hkb7:(t.kind == 7)=false:=by simpa using hk7
     have hk8:¬t.kind=8:=by omega
     have hkb8:(t.kind == 8)=false:=by simpa using hk8
     have HK:Hd (manyOf ds t.kind t.n t.args.length vars=none):=⟨by simp [manyOf,hk0,hk1,hk2,hk3,hk4,hk5,hk6,hk7,hk8]⟩
     have hff:formed1 ds vars t=false:=by rw [formed1_eq,HK.out]
     have hrf:r=false:=by rw [←HR.out,HE.out,hff,Bool.false_and]
     subst hrf
     clear hff
     go_wp2
     all_goals go_ret
     all_goals exact ⟨rfl,(HS.out.trans HSL.out).toBelow⟩
    all_goals (
     try subst hM
     go_wp2_with fail
     refine (empty_any W1 t.eff A1 A2 c1 c2).mono ?_
     rintro e W2 ⟨rfl,hb⟩
     have hs2:=Step.ofBelow ρ hb
     have HS2:=Hd.mk (HSL.out.trans hs2)
     have XS2:=Hd.mk (hs2.blk XS.out (fun _ _ h=>h))
     clear hb hs2 d0 d3 d2 hd4 d5 d6 hnm
     cases hem:t.eff.empty with
     |false =>
      have hrf:r=false:=by rw [←HR.out,HE.out,HFF.out,hem];rfl
      subst hrf
      clear hem
      go_wp2
      go_ret
      exact ⟨rfl,(HS.out.trans HS2.out).toBelow⟩
     |true =>
      have HEM:=Hd.mk hem
      have z3:W2.cell? ⟨Xs,3,none⟩=some (.slice A0 t.args.length c0):=XS2.out.cell (i:=3) rfl
      clear hem
      go_wp2_with fail
      have hrec:=HIH.out m1 (by omega) W2 ρ ds t.args _ cd nd A0 c0 vars (HDS.out.step (HS.out.trans HS2.out)) (HTA.out.step HS2.out) hvars
      obtain ⟨z,hz⟩:∃ z,formedL ds vars t.args=z:=⟨_,rfl⟩
      have hff:formed1 ds vars t=z:=by rw [HFF.out,HEM.out,hz];rfl
      rw [hz] at hrec
      have hE2:=HE.out
      rw [hff] at hE2
      have HE2:=Hd.mk hE2
      refine hrec.mono ?_
      clear hrec hz z3 hff hE2
      rintro e W3 ⟨rfl,hb⟩
      have HS3:=Hd.mk (HS2.out.trans (Step.ofBelow ρ hb))
      clear hb
      cases z with
      |false =>
       have hrf:r=false:=by rw [←HR.out,HE2.out];rfl
       subst hrf
       go_wp2
       go_ret
       exact ⟨rfl,(HS.out.trans HS3.out).toBelow⟩
      |true =>
       have HE3:=Hd.mk (HE2.out.trans (Bool.true_and _))
       go_wp2
       go_roundw
       case rel=>exact ⟨k+1,by go_num,by omega,HE3.out,HS.out.trans HS3.out⟩
       case measure=>simp [intOf];omega)
   ·have hke:k=l.length:=by omega
    subst hke
    have hE:=HE0.out
    rw [List.drop_length,formedL] at hE
    have hrt:r=true:=by rw [←HR.out,hE]
    subst hrt
    clear hE
    go_wp2
    go_ret
    exact ⟨rfl,HS.out.toBelow⟩
end
section
open Go Go.RowKit
def plainN (op int code rg:Int) (l4 l5 l6 l7 l8 l9:Nat):Bool :=
 decide (0≤op) && decide (op≤27) && decide (l5=0) && decide (l6=0) && decide (l7=0) && decide (l8=0) && decide (rg=0) &&
 (decide (op=0) || decide (op=5) || (decide (op=1) && (decide (int=0) || decide (int=1))) || decide (int=0)) &&
 (decide (op=3) || decide (op=6) || decide (op=16) || decide (code=0)) && (decide (op=6) || decide (l4=0)) &&
 (decide (op=7) || decide (op=17) || decide (op=26) || decide (op=27) || decide (l9=0))
theorem plainStep_eq (s:St):plainStep s=plainN s.op s.int s.code s.region s.types.length s.effs.length s.regs.length s.modes.length s.keep.length s.blocks.length:=by
 unfold plainStep plainN
 simp only [isEmpty_len]
def PlainW (op int code rg:Int) (l4 l5 l6 l7 l8 l9:Nat):Prop:=∀ (w:World) (cs:List Value) (A4 A5 A6 A7 A8 A9:Option Addr) (c4 c5 c6 c7 c8 c9:Nat),cs.length=19→cs.toArray.all (·.oneCell')=true→cs[0]? =some (.int .i64 op)→cs[10]? =some (.int .i64 int)→cs[11]? =some (.int .i64 code)→cs[12]? =some (.slice A4 l4 c4)→cs[13]? =some (.slice A5 l5 c5)→cs[14]? =some (.slice A6 l6 c6)→cs[15]? =some (.slice A7 l7 c7)→cs[16]? =some (.int .i64 rg)→cs[17]? =some (.slice A8 l8 c8)→cs[18]? =some (.slice A9 l9 c9) →
 Calls Try.prog 39 #[.agg cs.toArray] w fun r w'=>r= .returned (.bool (plainN op int code rg l4 l5 l6 l7 l8 l9))∧Below w.heap.size w w'
section
variable (op int code rg:Int) (l4 l5 l6 l7 l8 l9:Nat)
include op int code rg l4 l5 l6 l7 l8 l9
theorem plain_pre (hbad:¬(0≤op∧op≤27∧l5=0∧l6=0∧l7=0∧l8=0∧rg=0)):PlainW op int code rg l4 l5 l6 l7 l8 l9:=by
 intro w cs A4 A5 A6 A7 A8 A9 c4 c5 c6 c7 c8 c9 hcl hone g0 g10 g11 g12 g13 g14 g15 g16 g17 g18
 have HS0:=Hd.mk ((Step.refl (fun _=>False) w (fun _=>none)).alloc (.cells cs.toArray 94))
 obtain ⟨z,hz⟩:∃ z,plainN op int code rg l4 l5 l6 l7 l8 l9=z:=⟨_,rfl⟩
 rw [hz]
 have HZ:=Hd.mk hz
 clear hcl hone hz
 refine Classical.byCases (fun h1:op<0=>?p2) (fun h1=>?n2)
 case' p2 =>
  have hzz:z=false:=by rw [←HZ.out];simp [plainN,show ¬0≤op by omega]
  subst hzz
 case' n2 =>
  refine Classical.byCases (fun h2:27<op=>?p1) (fun h2=>?n1)
  case' p1 =>
   have hzz:z=false:=by rw [←HZ.out];simp [plainN,show ¬op≤27 by omega]
   subst hzz
  case' n1 =>
   refine Classical.byCases (fun k5:l5=0=>?p3) (fun k5=>?n3)
   case' p3 =>
    subst k5
    refine Classical.byCases (fun k6:l6=0=>?p4) (fun k6=>?n4)
    case' p4 =>
     subst k6
     refine Classical.byCases (fun k7:l7=0=>?p5) (fun k7=>?n5)
     case' p5 =>
      subst k7
      refine Classical.byCases (fun k8:l8=0=>?p6) (fun k8=>?n6)
      case' p6 =>
       subst k8
       have k10:¬rg=0:=fun e=>hbad ⟨by omega,by omega,rfl,rfl,rfl,rfl,e⟩
       have k10b:(rg == 0)=false:=by simpa using k10
       have k10n:(rg != 0)=true:=by simpa using k10
       have hzz:z=false:=by rw [←HZ.out];simp [plainN,k10]
       subst hzz
      case' n6 =>
       have k8b:((l8:Int) == 0)=false:=by simp;omega
       have k8c:¬(l8:Int)=0:=by omega
       have k8d:(0:Int)<l8:=by omega
       have hzz:z=false:=by rw [←HZ.out];simp [plainN,k8]
       subst hzz
     case' n5 =>
      have k7b:((l7:Int) == 0)=false:=by simp;omega
      have k7c:¬(l7:Int)=0:=by omega
      have k7d:(0:Int)<l7:=by omega
      have hzz:z=false:=by rw [←HZ.out];simp [plainN,k7]
      subst hzz
    case' n4 =>
     have k6b:((l6:Int) == 0)=false:=by simp;omega
     have k6c:¬(l6:Int)=0:=by omega
     have k6d:(0:Int)<l6:=by omega
     have hzz:z=false:=by rw [←HZ.out];simp [plainN,k6]
     subst hzz
   case' n3 =>
    have k5b:((l5:Int) == 0)=false:=by simp;omega
    have k5c:¬(l5:Int)=0:=by omega
    have k5d:(0:Int)<l5:=by omega
    have hzz:z=false:=by rw [←HZ.out];simp [plainN,k5]
    subst hzz
 all_goals (
  go_enter Try.func39,Try.ntmps39
  go_wp2
  go_ret
  exact ⟨by first|rfl|simp,HS0.out.toBelow⟩)
theorem plain_0 (hop:op=0) (h5:l5=0) (h6:l6=0) (h7:l7=0) (h8:l8=0) (hr:rg=0):PlainW op int code rg l4 l5 l6 l7 l8 l9:=by
 intro w cs A4 A5 A6 A7 A8 A9 c4 c5 c6 c7 c8 c9 hcl hone g0 g10 g11 g12 g13 g14 g15 g16 g17 g18
 have HS0:=Hd.mk ((Step.refl (fun _=>False) w (fun _=>none)).alloc (.cells cs.toArray 94))
 obtain ⟨z,hz⟩:∃ z,plainN op int code rg l4 l5 l6 l7 l8 l9=z:=⟨_,rfl⟩
 rw [hz]
 have HZ:=Hd.mk hz
 clear hcl hone hz
 subst hop h5 h6 h7 h8 hr
 refine Classical.byCases (fun bc:code=0=>?p9) (fun bc=>?n9)
 case' p9 =>
  subst bc
  refine Classical.byCases (fun b4:l4=0=>?p8) (fun b4=>?n8)
  case' p8 =>
   subst b4
   refine Classical.byCases (fun b9:l9=0=>?p7) (fun b9=>?n7)
   case' p7 =>
    subst b9
    have hzz:z=true:=by rw [←HZ.out];simp [plainN]
    subst hzz
   case' n7 =>
    have b9b:((l9:Int) == 0)=false:=by simp;omega
    have b9c:¬(l9:Int)=0:=by omega
    have b9d:(0:Int)<l9:=by omega
    have hzz:z=false:=by rw [←HZ.out];simp [plainN,b9]
    subst hzz
  case' n8 =>
   have b4b:((l4:Int) == 0)=false:=by simp;omega
   have b4c:¬(l4:Int)=0:=by omega
   have b4d:(0:Int)<l4:=by omega
   have hzz:z=false:=by rw [←HZ.out];simp [plainN,b4]
   subst hzz
 case' n9 =>
  have bcb:(code == 0)=false:=by simpa using bc
  have bcn:(code != 0)=true:=by simpa using bc
  have hzz:z=false:=by rw [←HZ.out];simp [plainN,bc]
  subst hzz
 all_goals (
  go_enter Try.func39,Try.ntmps39
  go_wp2
  go_ret
  exact ⟨by first|rfl|simp,HS0.out.toBelow⟩)
theorem plain_5 (hop:op=5) (h5:l5=0) (h6:l6=0) (h7:l7=0) (h8:l8=0) (hr:rg=0):PlainW op int code rg l4 l5 l6 l7 l8 l9:=by
 intro w cs A4 A5 A6 A7 A8 A9 c4 c5 c6 c7 c8 c9 hcl hone g0 g10 g11 g12 g13 g14 g15 g16 g17 g18
 have HS0:=Hd.mk ((Step.refl (fun _=>False) w (fun _=>none)).alloc (.cells cs.toArray 94))
 obtain ⟨z,hz⟩:∃ z,plainN op int code rg l4 l5 l6 l7 l8 l9=z:=⟨_,rfl⟩
 rw [hz]
 have HZ:=Hd.mk hz
 clear hcl hone hz
 subst hop h5 h6 h7 h8 hr
 refine Classical.byCases (fun bc:code=0=>?p12) (fun bc=>?n12)
 case' p12 =>
  subst bc
  refine Classical.byCases (fun b4:l4=0=>?p11) (fun b4=>?n11)
  case' p11 =>
   subst b4
   refine Classical.byCases (fun b9:l9=0=>?p10) (fun b9=>?n10)
   case' p10 =>
    subst b9
    have hzz:z=true:=by rw [←HZ.out];simp [plainN]
    subst hzz
   case' n10 =>
    have b9b:((l9:Int) == 0)=false:=by simp;omega
    have b9c:¬(l9:Int)=0:=by omega
    have b9d:(0:Int)<l9:=by omega
    have hzz:z=false:=by rw [←HZ.out];simp [plainN,b9]
    subst hzz
  case' n11 =>
   have b4b:((l4:Int) == 0)=false:=by simp;omega
   have b4c:¬(l4:Int)=0:=by omega
   have b4d:(0:Int)<l4:=by omega
   have hzz:z=false:=by rw [←HZ.out];simp [plainN,b4]
   subst hzz
 case' n12 =>
  have bcb:(code == 0)=false:=by simpa using bc
  have bcn:(code != 0)=true:=by simpa using bc
  have hzz:z=false:=by rw [←HZ.out];simp [plainN,bc]
  subst hzz
 all_goals (
  go_enter Try.func39,Try.ntmps39
  go_wp2
  go_ret
  exact ⟨by first|rfl|simp,HS0.out.toBelow⟩)
theorem plain_1 (hop:op=1) (h5:l5=0) (h6:l6=0) (h7:l7=0) (h8:l8=0) (hr:rg=0):PlainW op int code rg l4 l5 l6 l7 l8 l9:=by
 intro w cs A4 A5 A6 A7 A8 A9 c4 c5 c6 c7 c8 c9 hcl hone g0 g10 g11 g12 g13 g14 g15 g16 g17 g18
 have HS0:=Hd.mk ((Step.refl (fun _=>False) w (fun _=>none)).alloc (.cells cs.toArray 94))
 obtain ⟨z,hz⟩:∃ z,plainN op int code rg l4 l5 l6 l7 l8 l9=z:=⟨_,rfl⟩
 rw [hz]
 have HZ:=Hd.mk hz
 clear hcl hone hz
 subst hop h5 h6 h7 h8 hr
 refine Classical.byCases (fun i0:int=0=>?p20) (fun i0=>?n20)
 case' p20 =>
  subst i0
  refine Classical.byCases (fun bc:code=0=>?p15) (fun bc=>?n15)
  case' p15 =>
   subst bc
   refine Classical.byCases (fun b4:l4=0=>?p14) (fun b4=>?n14)
   case' p14 =>
    subst b4
    refine Classical.byCases (fun b9:l9=0=>?p13) (fun b9=>?n13)
    case' p13 =>
     subst b9
     have hzz:z=true:=by rw [←HZ.out];simp [plainN]
     subst hzz
    case' n13 =>
     have b9b:((l9:Int) == 0)=false:=by simp;omega
     have b9c:¬(l9:Int)=0:=by omega
     have b9d:(0:Int)<l9:=by omega
     have hzz:z=false:=by rw [←HZ.out];simp [plainN,b9]
     subst hzz
   case' n14 =>
    have b4b:((l4:Int) == 0)=false:=by simp;omega
    have b4c:¬(l4:Int)=0:=by omega
    have b4d:(0:Int)<l4:=by omega
    have hzz:z=false:=by rw [←HZ.out];simp [plainN,b4]
    subst hzz
  case' n15 =>
   have bcb:(code == 0)=false:=by simpa using bc
   have bcn:(code != 0)=true:=by simpa using bc
   have hzz:z=false:=by rw [←HZ.out];simp [plainN,bc]
   subst hzz
 case' n20 =>
  have i0b:(int == 0)=false:=by simpa using i0
  have i0n:(int != 0)=true:=by simpa using i0
  refine Classical.byCases (fun i1:int=1=>?p19) (fun i1=>?n19)
  case' p19 =>
   subst i1
   refine Classical.byCases (fun bc:code=0=>?p18) (fun bc=>?n18)
   case' p18 =>
    subst bc
    refine Classical.byCases (fun b4:l4=0=>?p17) (fun b4=>?n17)
    case' p17 =>
     subst b4
     refine Classical.byCases (fun b9:l9=0=>?p16) (fun b9=>?n16)
     case' p16 =>
      subst b9
      have hzz:z=true:=by rw [←HZ.out];simp [plainN]
      subst hzz
     case' n16 =>
      have b9b:((l9:Int) == 0)=false:=by simp;omega
      have b9c:¬(l9:Int)=0:=by omega
      have b9d:(0:Int)<l9:=by omega
      have hzz:z=false:=by rw [←HZ.out];simp [plainN,b9]
      subst hzz
    case' n17 =>
     have b4b:((l4:Int) == 0)=false:=by simp;omega
     have b4c:¬(l4:Int)=0:=by omega
     have b4d:(0:Int)<l4:=by omega
     have hzz:z=false:=by rw [←HZ.out];simp [plainN,b4]
     subst hzz
   case' n18 =>
    have bcb:(code == 0)=false:=by simpa using bc
    have bcn:(code != 0)=true:=by simpa using bc
    have hzz:z=false:=by rw [←HZ.out];simp [plainN,bc]
    subst hzz
  case' n19 =>
   have i1b:(int == 1)=false:=by simpa using i1
   have i1n:(int != 1)=true:=by simpa using i1
   have hzz:z=false:=by rw [←HZ.out];simp [plainN,i0,i1]
   subst hzz
 all_goals (
  go_enter Try.func39,Try.ntmps39
  go_wp2
  go_ret
  exact ⟨by first|rfl|simp,HS0.out.toBelow⟩)
theorem plain_3 (hop:op=3) (h5:l5=0) (h6:l6=0) (h7:l7=0) (h8:l8=0) (hr:rg=0):PlainW op int code rg l4 l5 l6 l7 l8 l9:=by
 intro w cs A4 A5 A6 A7 A8 A9 c4 c5 c6 c7 c8 c9 hcl hone g0 g10 g11 g12 g13 g14 g15 g16 g17 g18
 have HS0:=Hd.mk ((Step.refl (fun _=>False) w (fun _=>none)).alloc (.cells cs.toArray 94))
 obtain ⟨z,hz⟩:∃ z,plainN op int code rg l4 l5 l6 l7 l8 l9=z:=⟨_,rfl⟩
 rw [hz]
 have HZ:=Hd.mk hz
 clear hcl hone hz
 subst hop h5 h6 h7 h8 hr
 refine Classical.byCases (fun bi:int=0=>?p23) (fun bi=>?n23)
 case' p23 =>
  subst bi
  refine Classical.byCases (fun b4:l4=0=>?p22) (fun b4=>?n22)
  case' p22 =>
   subst b4
   refine Classical.byCases (fun b9:l9=0=>?p21) (fun b9=>?n21)
   case' p21 =>
    subst b9
    have hzz:z=true:=by rw [←HZ.out];simp [plainN]
    subst hzz
   case' n21 =>
    have b9b:((l9:Int) == 0)=false:=by simp;omega
    have b9c:¬(l9:Int)=0:=by omega
    have b9d:(0:Int)<l9:=by omega
    have hzz:z=false:=by rw [←HZ.out];simp [plainN,b9]
    subst hzz
  case' n22 =>
   have b4b:((l4:Int) == 0)=false:=by simp;omega
   have b4c:¬(l4:Int)=0:=by omega
   have b4d:(0:Int)<l4:=by omega
   have hzz:z=false:=by rw [←HZ.out];simp [plainN,b4]
   subst hzz
 case' n23 =>
  have bib:(int == 0)=false:=by simpa using bi
  have bin:(int != 0)=true:=by simpa using bi
  have hzz:z=false:=by rw [←HZ.out];simp [plainN,bi]
  subst hzz
 all_goals (
  go_enter Try.func39,Try.ntmps39
  go_wp2
  go_ret
  exact ⟨by first|rfl|simp,HS0.out.toBelow⟩)
theorem plain_6 (hop:op=6) (h5:l5=0) (h6:l6=0) (h7:l7=0) (h8:l8=0) (hr:rg=0):PlainW op int code rg l4 l5 l6 l7 l8 l9:=by
 intro w cs A4 A5 A6 A7 A8 A9 c4 c5 c6 c7 c8 c9 hcl hone g0 g10 g11 g12 g13 g14 g15 g16 g17 g18
 have HS0:=Hd.mk ((Step.refl (fun _=>False) w (fun _=>none)).alloc (.cells cs.toArray 94))
 obtain ⟨z,hz⟩:∃ z,plainN op int code rg l4 l5 l6 l7 l8 l9=z:=⟨_,rfl⟩
 rw [hz]
 have HZ:=Hd.mk hz
 clear hcl hone hz
 subst hop h5 h6 h7 h8 hr
 refine Classical.byCases (fun bi:int=0=>?p25) (fun bi=>?n25)
 case' p25 =>
  subst bi
  refine Classical.byCases (fun b9:l9=0=>?p24) (fun b9=>?n24)
  case' p24 =>
   subst b9
   have hzz:z=true:=by rw [←HZ.out];simp [plainN]
   subst hzz
  case' n24 =>
   have b9b:((l9:Int) == 0)=false:=by simp;omega
   have b9c:¬(l9:Int)=0:=by omega
   have b9d:(0:Int)<l9:=by omega
   have hzz:z=false:=by rw [←HZ.out];simp [plainN,b9]
   subst hzz
 case' n25 =>
  have bib:(int == 0)=false:=by simpa using bi
  have bin:(int != 0)=true:=by simpa using bi
  have hzz:z=false:=by rw [←HZ.out];simp [plainN,bi]
  subst hzz
 all_goals (
  go_enter Try.func39,Try.ntmps39
  go_wp2
  go_ret
  exact ⟨by first|rfl|simp,HS0.out.toBelow⟩)
theorem plain_16 (hop:op=16) (h5:l5=0) (h6:l6=0) (h7:l7=0) (h8:l8=0) (hr:rg=0):PlainW op int code rg l4 l5 l6 l7 l8 l9:=by
 intro w cs A4 A5 A6 A7 A8 A9 c4 c5 c6 c7 c8 c9 hcl hone g0 g10 g11 g12 g13 g14 g15 g16 g17 g18
 have HS0:=Hd.mk ((Step.refl (fun _=>False) w (fun _=>none)).alloc (.cells cs.toArray 94))
 obtain ⟨z,hz⟩:∃ z,plainN op int code rg l4 l5 l6 l7 l8 l9=z:=⟨_,rfl⟩
 rw [hz]
 have HZ:=Hd.mk hz
 clear hcl hone hz
 subst hop h5 h6 h7 h8 hr
 refine Classical.byCases (fun bi:int=0=>?p28) (fun bi=>?n28)
 case' p28 =>
  subst bi
  refine Classical.byCases (fun b4:l4=0=>?p27) (fun b4=>?n27)
  case' p27 =>
   subst b4
   refine Classical.byCases (fun b9:l9=0=>?p26) (fun b9=>?n26)
   case' p26 =>
    subst b9
    have hzz:z=true:=by rw [←HZ.out];simp [plainN]
    subst hzz
   case' n26 =>
    have b9b:((l9:Int) == 0)=false:=by simp;omega
    have b9c:¬(l9:Int)=0:=by omega
    have b9d:(0:Int)<l9:=by omega
    have hzz:z=false:=by rw [←HZ.out];simp [plainN,b9]
    subst hzz
  case' n27 =>
   have b4b:((l4:Int) == 0)=false:=by simp;omega
   have b4c:¬(l4:Int)=0:=by omega
   have b4d:(0:Int)<l4:=by omega
   have hzz:z=false:=by rw [←HZ.out];simp [plainN,b4]
   subst hzz
 case' n28 =>
  have bib:(int == 0)=false:=by simpa using bi
  have bin:(int != 0)=true:=by simpa using bi
  have hzz:z=false:=by rw [←HZ.out];simp [plainN,bi]
  subst hzz
 all_goals (
  go_enter Try.func39,Try.ntmps39
  go_wp2
  go_ret
  exact ⟨by first|rfl|simp,HS0.out.toBelow⟩)
theorem plain_7 (hop:op=7) (h5:l5=0) (h6:l6=0) (h7:l7=0) (h8:l8=0) (hr:rg=0):PlainW op int code rg l4 l5 l6 l7 l8 l9:=by
 intro w cs A4 A5 A6 A7 A8 A9 c4 c5 c6 c7 c8 c9 hcl hone g0 g10 g11 g12 g13 g14 g15 g16 g17 g18
 have HS0:=Hd.mk ((Step.refl (fun _=>False) w (fun _=>none)).alloc (.cells cs.toArray 94))
 obtain ⟨z,hz⟩:∃ z,plainN op int code rg l4 l5 l6 l7 l8 l9=z:=⟨_,rfl⟩
 rw [hz]
 have HZ:=Hd.mk hz
 clear hcl hone hz
 subst hop h5 h6 h7 h8 hr
 refine Classical.byCases (fun bi:int=0=>?p31) (fun bi=>?n31)
 case' p31 =>
  subst bi
  refine Classical.byCases (fun bc:code=0=>?p30) (fun bc=>?n30)
  case' p30 =>
   subst bc
   refine Classical.byCases (fun b4:l4=0=>?p29) (fun b4=>?n29)
   case' p29 =>
    subst b4
    have hzz:z=true:=by rw [←HZ.out];simp [plainN]
    subst hzz
   case' n29 =>
    have b4b:((l4:Int) == 0)=false:=by simp;omega
    have b4c:¬(l4:Int)=0:=by omega
    have b4d:(0:Int)<l4:=by omega
    have hzz:z=false:=by rw [←HZ.out];simp [plainN,b4]
    subst hzz
  case' n30 =>
   have bcb:(code == 0)=false:=by simpa using bc
   have bcn:(code != 0)=true:=by simpa using bc
   have hzz:z=false:=by rw [←HZ.out];simp [plainN,bc]
   subst hzz
 case' n31 =>
  have bib:(int == 0)=false:=by simpa using bi
  have bin:(int != 0)=true:=by simpa using bi
  have hzz:z=false:=by rw [←HZ.out];simp [plainN,bi]
  subst hzz
 all_goals (
  go_enter Try.func39,Try.ntmps39
  go_wp2
  go_ret
  exact ⟨by first|rfl|simp,HS0.out.toBelow⟩)
theorem plain_17 (hop:op=17) (h5:l5=0) (h6:l6=0) (h7:l7=0) (h8:l8=0) (hr:rg=0):PlainW op int code rg l4 l5 l6 l7 l8 l9:=by
 intro w cs A4 A5 A6 A7 A8 A9 c4 c5 c6 c7 c8 c9 hcl hone g0 g10 g11 g12 g13 g14 g15 g16 g17 g18
 have HS0:=Hd.mk ((Step.refl (fun _=>False) w (fun _=>none)).alloc (.cells cs.toArray 94))
 obtain ⟨z,hz⟩:∃ z,plainN op int code rg l4 l5 l6 l7 l8 l9=z:=⟨_,rfl⟩
 rw [hz]
 have HZ:=Hd.mk hz
 clear hcl hone hz
 subst hop h5 h6 h7 h8 hr
 refine Classical.byCases (fun bi:int=0=>?p34) (fun bi=>?n34)
 case' p34 =>
  subst bi
  refine Classical.byCases (fun bc:code=0=>?p33) (fun bc=>?n33)
  case' p33 =>
   subst bc
   refine Classical.byCases (fun b4:l4=0=>?p32) (fun b4=>?n32)
   case' p32 =>
    subst b4
    have hzz:z=true:=by rw [←HZ.out];simp [plainN]
    subst hzz
   case' n32 =>
    have b4b:((l4:Int) == 0)=false:=by simp;omega
    have b4c:¬(l4:Int)=0:=by omega
    have b4d:(0:Int)<l4:=by omega
    have hzz:z=false:=by rw [←HZ.out];simp [plainN,b4]
    subst hzz
  case' n33 =>
   have bcb:(code == 0)=false:=by simpa using bc
   have bcn:(code != 0)=true:=by simpa using bc
   have hzz:z=false:=by rw [←HZ.out];simp [plainN,bc]
   subst hzz
 case' n34 =>
  have bib:(int == 0)=false:=by simpa using bi
  have bin:(int != 0)=true:=by simpa using bi
  have hzz:z=false:=by rw [←HZ.out];simp [plainN,bi]
  subst hzz
 all_goals (
  go_enter Try.func39,Try.ntmps39
  go_wp2
  go_ret
  exact ⟨by first|rfl|simp,HS0.out.toBelow⟩)
theorem plain_26 (hop:op=26) (h5:l5=0) (h6:l6=0) (h7:l7=0) (h8:l8=0) (hr:rg=0):PlainW op int code rg l4 l5 l6 l7 l8 l9:=by
 intro w cs A4 A5 A6 A7 A8 A9 c4 c5 c6 c7 c8 c9 hcl hone g0 g10 g11 g12 g13 g14 g15 g16 g17 g18
 have HS0:=Hd.mk ((Step.refl (fun _=>False) w (fun _=>none)).alloc (.cells cs.toArray 94))
 obtain ⟨z,hz⟩:∃ z,plainN op int code rg l4 l5 l6 l7 l8 l9=z:=⟨_,rfl⟩
 rw [hz]
 have HZ:=Hd.mk hz
 clear hcl hone hz
 subst hop h5 h6 h7 h8 hr
 refine Classical.byCases (fun bi:int=0=>?p37) (fun bi=>?n37)
 case' p37 =>
  subst bi
  refine Classical.byCases (fun bc:code=0=>?p36) (fun bc=>?n36)
  case' p36 =>
   subst bc
   refine Classical.byCases (fun b4:l4=0=>?p35) (fun b4=>?n35)
   case' p35 =>
    subst b4
    have hzz:z=true:=by rw [←HZ.out];simp [plainN]
    subst hzz
   case' n35 =>
    have b4b:((l4:Int) == 0)=false:=by simp;omega
    have b4c:¬(l4:Int)=0:=by omega
    have b4d:(0:Int)<l4:=by omega
    have hzz:z=false:=by rw [←HZ.out];simp [plainN,b4]
    subst hzz
  case' n36 =>
   have bcb:(code == 0)=false:=by simpa using bc
   have bcn:(code != 0)=true:=by simpa using bc
   have hzz:z=false:=by rw [←HZ.out];simp [plainN,bc]
   subst hzz
 case' n37 =>
  have bib:(int == 0)=false:=by simpa using bi
  have bin:(int != 0)=true:=by simpa using bi
  have hzz:z=false:=by rw [←HZ.out];simp [plainN,bi]
  subst hzz
 all_goals (
  go_enter Try.func39,Try.ntmps39
  go_wp2
  go_ret
  exact ⟨by first|rfl|simp,HS0.out.toBelow⟩)
theorem plain_27 (hop:op=27) (h5:l5=0) (h6:l6=0) (h7:l7=0) (h8:l8=0) (hr:rg=0):PlainW op int code rg l4 l5 l6 l7 l8 l9:=by
 intro w cs A4 A5 A6 A7 A8 A9 c4 c5 c6 c7 c8 c9 hcl hone g0 g10 g11 g12 g13 g14 g15 g16 g17 g18
 have HS0:=Hd.mk ((Step.refl (fun _=>False) w (fun _=>none)).alloc (.cells cs.toArray 94))
 obtain ⟨z,hz⟩:∃ z,plainN op int code rg l4 l5 l6 l7 l8 l9=z:=⟨_,rfl⟩
 rw [hz]
 have HZ:=Hd.mk hz
 clear hcl hone hz
 subst hop h5 h6 h7 h8 hr
 refine Classical.byCases (fun bi:int=0=>?p40) (fun bi=>?n40)
 case' p40 =>
  subst bi
  refine Classical.byCases (fun bc:code=0=>?p39) (fun bc=>?n39)
  case' p39 =>
   subst bc
   refine Classical.byCases (fun b4:l4=0=>?p38) (fun b4=>?n38)
   case' p38 =>
    subst b4
    have hzz:z=true:=by rw [←HZ.out];simp [plainN]
    subst hzz
   case' n38 =>
    have b4b:((l4:Int) == 0)=false:=by simp;omega
    have b4c:¬(l4:Int)=0:=by omega
    have b4d:(0:Int)<l4:=by omega
    have hzz:z=false:=by rw [←HZ.out];simp [plainN,b4]
    subst hzz
  case' n39 =>
   have bcb:(code == 0)=false:=by simpa using bc
   have bcn:(code != 0)=true:=by simpa using bc
   have hzz:z=false:=by rw [←HZ.out];simp [plainN,bc]
   subst hzz
 case' n40 =>
  have bib:(int == 0)=false:=by simpa using bi
  have bin:(int != 0)=true:=by simpa using bi
  have hzz:z=false:=by rw [←HZ.out];simp [plainN,bi]
  subst hzz
 all_goals (
  go_enter Try.func39,Try.ntmps39
  go_wp2
  go_ret
  exact ⟨by first|rfl|simp,HS0.out.toBelow⟩)
theorem plain_o (hlo:0≤op) (hhi:op≤27) (hop:¬op=0∧¬op=5∧¬op=1∧¬op=3∧¬op=6∧¬op=16∧¬op=7∧¬op=17∧¬op=26∧¬op=27) (h5:l5=0) (h6:l6=0) (h7:l7=0) (h8:l8=0) (hr:rg=0):PlainW op int code rg l4 l5 l6 l7 l8 l9:=by
 intro w cs A4 A5 A6 A7 A8 A9 c4 c5 c6 c7 c8 c9 hcl hone g0 g10 g11 g12 g13 g14 g15 g16 g17 g18
 have HS0:=Hd.mk ((Step.refl (fun _=>False) w (fun _=>none)).alloc (.cells cs.toArray 94))
 obtain ⟨z,hz⟩:∃ z,plainN op int code rg l4 l5 l6 l7 l8 l9=z:=⟨_,rfl⟩
 rw [hz]
 have HZ:=Hd.mk hz
 clear hcl hone hz
 subst h5 h6 h7 h8 hr
 obtain ⟨o0,o5,o1,o3,o6,o16,o7,o17,o26,o27⟩:=hop
 have o0b:(op == 0)=false:=by simpa using o0
 have o5b:(op == 5)=false:=by simpa using o5
 have o1b:(op == 1)=false:=by simpa using o1
 have o3b:(op == 3)=false:=by simpa using o3
 have o6b:(op == 6)=false:=by simpa using o6
 have o16b:(op == 16)=false:=by simpa using o16
 have o7b:(op == 7)=false:=by simpa using o7
 have o17b:(op == 17)=false:=by simpa using o17
 have o26b:(op == 26)=false:=by simpa using o26
 have o27b:(op == 27)=false:=by simpa using o27
 have hlo2:¬op<0:=by omega
 have hhi2:¬27<op:=by omega
 refine Classical.byCases (fun bi:int=0=>?p44) (fun bi=>?n44)
 case' p44 =>
  subst bi
  refine Classical.byCases (fun bc:code=0=>?p43) (fun bc=>?n43)
  case' p43 =>
   subst bc
   refine Classical.byCases (fun b4:l4=0=>?p42) (fun b4=>?n42)
   case' p42 =>
    subst b4
    refine Classical.byCases (fun b9:l9=0=>?p41) (fun b9=>?n41)
    case' p41 =>
     subst b9
     have hzz:z=true:=by rw [←HZ.out];simp [plainN,hlo,hhi,o0,o5,o1,o3,o6,o16,o7,o17,o26,o27]
     subst hzz
    case' n41 =>
     have b9b:((l9:Int) == 0)=false:=by simp;omega
     have b9c:¬(l9:Int)=0:=by omega
     have b9d:(0:Int)<l9:=by omega
     have hzz:z=false:=by rw [←HZ.out];simp [plainN,hlo,hhi,o0,o5,o1,o3,o6,o16,o7,o17,o26,o27,b9]
     subst hzz
   case' n42 =>
    have b4b:((l4:Int) == 0)=false:=by simp;omega
    have b4c:¬(l4:Int)=0:=by omega
    have b4d:(0:Int)<l4:=by omega
    have hzz:z=false:=by rw [←HZ.out];simp [plainN,hlo,hhi,o0,o5,o1,o3,o6,o16,o7,o17,o26,o27,b4]
    subst hzz
  case' n43 =>
   have bcb:(code == 0)=false:=by simpa using bc
   have bcn:(code != 0)=true:=by simpa using bc
   have hzz:z=false:=by rw [←HZ.out];simp [plainN,hlo,hhi,o0,o5,o1,o3,o6,o16,o7,o17,o26,o27,bc]
   subst hzz
 case' n44 =>
  have bib:(int == 0)=false:=by simpa using bi
  have bin:(int != 0)=true:=by simpa using bi
  have hzz:z=false:=by rw [←HZ.out];simp [plainN,hlo,hhi,o0,o5,o1,o3,o6,o16,o7,o17,o26,o27,bi]
  subst hzz
 all_goals (
  go_enter Try.func39,Try.ntmps39
  go_wp2
  go_ret
  exact ⟨by first|rfl|simp,HS0.out.toBelow⟩)
theorem plain_any:PlainW op int code rg l4 l5 l6 l7 l8 l9:=by
 by_cases h:0≤op∧op≤27∧l5=0∧l6=0∧l7=0∧l8=0∧rg=0
 ·obtain ⟨h1,h2,h5,h6,h7,h8,hr⟩:=h
  by_cases o0:op=0
  ·exact plain_0 _ _ _ _ _ _ _ _ _ _ o0 h5 h6 h7 h8 hr
  by_cases o5:op=5
  ·exact plain_5 _ _ _ _ _ _ _ _ _ _ o5 h5 h6 h7 h8 hr
  by_cases o1:op=1
  ·exact plain_1 _ _ _ _ _ _ _ _ _ _ o1 h5 h6 h7 h8 hr
  by_cases o3:op=3
  ·exact plain_3 _ _ _ _ _ _ _ _ _ _ o3 h5 h6 h7 h8 hr
  by_cases o6:op=6
  ·exact plain_6 _ _ _ _ _ _ _ _ _ _ o6 h5 h6 h7 h8 hr
  by_cases o16:op=16
  ·exact plain_16 _ _ _ _ _ _ _ _ _ _ o16 h5 h6 h7 h8 hr
  by_cases o7:op=7
  ·exact plain_7 _ _ _ _ _ _ _ _ _ _ o7 h5 h6 h7 h8 hr
  by_cases o17:op=17
  ·exact plain_17 _ _ _ _ _ _ _ _ _ _ o17 h5 h6 h7 h8 hr
  by_cases o26:op=26
  ·exact plain_26 _ _ _ _ _ _ _ _ _ _ o26 h5 h6 h7 h8 hr
  by_cases o27:op=27
  ·exact plain_27 _ _ _ _ _ _ _ _ _ _ o27 h5 h6 h7 h8 hr
  exact plain_o _ _ _ _ _ _ _ _ _ _ h1 h2 ⟨o0,o5,o1,o3,o6,o16,o7,o17,o26,o27⟩ h5 h6 h7 h8 hr
 ·exact plain_pre _ _ _ _ _ _ _ _ _ _ h
end
end
end Go.Proofs.Ytadffbgbndibpaa
