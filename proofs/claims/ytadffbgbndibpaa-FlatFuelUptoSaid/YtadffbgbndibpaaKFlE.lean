/- FlC, FlD, FlE: lemmas and walks of the claim. -/
import Derived.Test.YtadffbgbndibpaaProg
import Derived.Test.YtadffbgbndibpaaKFlB
import Derived.BigQuiet
import Derived.Deep.WholeRow
import Derived.Deep.MidRow
import Derived.Deep.QuietTactic
import Derived.Deep.RegionHeld3
set_option linter.unusedVariables false
set_option linter.unusedSimpArgs false
set_option maxHeartbeats 16000000
set_option maxRecDepth 100000
namespace Go.Proofs.Ytadffbgbndibpaa
section
open Go Go.RowKit
theorem Step.toBelow {w w':World} {ρ ρ':Ghost} (h:Step (fun _=>False) w ρ w' ρ'):Below w.heap.size w w' :=
 ⟨h.os,h.tape,h.output,h.size,fun k hk=>h.block k hk (fun _ _ h=>h)⟩
theorem Step.ofBelow {w w':World} (ρ:Ghost) (h:Below w.heap.size w w'):Step (fun _=>False) w ρ w' ρ:=(Step.refl _ w ρ).of_below h
theorem TyR.shape {w:World} {ρ:Ghost} {n:Nat} {t:Ty} {cs:List Value} (h:TyR w ρ n t cs):∃ m va v1 v2,n=m+1∧cs=[.int .i64 t.kind, .int .i64 t.n, .string t.name,va, .int .i64 t.region,v1,v2]∧I64 t.kind∧I64 t.n∧I64 t.region∧t.name.size≤maxLen∧TysR w ρ m va t.args∧IntsR w ρ v1 t.eff.regs∧IntsR w ρ v2 t.eff.vars:=by
 cases n with
 |zero=>exact h.elim
 |succ m =>
  obtain ⟨va,v1,v2,h0,h1,h2,h3,h4,h5,h6,h7⟩:=h
  exact ⟨m,va,v1,v2,rfl,h0,h1,h2,h3,h4,h5,h6,h7⟩
theorem TysR.elem {w:World} {ρ:Ghost} {n:Nat} {A:Option Addr} {len c:Nat} {l:List Ty} (h:TysR w ρ n (.slice A len c) l) {k:Nat} {t:Ty} (hk:l[k]? =some t) :
 ∃ b o va v1 v2,A=some ⟨b,o,none⟩∧TyR w ρ n t [.int .i64 t.kind, .int .i64 t.n, .string t.name,va, .int .i64 t.region,v1,v2] ∧
  w.cell? ⟨b,o+k*7,none⟩=some (.int .i64 t.kind)∧w.cell? ⟨b,o+k*7+1,none⟩=some (.int .i64 t.n)∧w.cell? ⟨b,o+k*7+2,none⟩=some (.string t.name)∧w.cell? ⟨b,o+k*7+3,none⟩=some va ∧
  w.cell? ⟨b,o+k*7+4,none⟩=some (.int .i64 t.region)∧w.cell? ⟨b,o+k*7+5,none⟩=some v1∧w.cell? ⟨b,o+k*7+6,none⟩=some v2:=by
 obtain ⟨b,o,cs,rfl,_,hR,hc⟩:=SlR.get h hk
 obtain ⟨m,va,v1,v2,rfl,rfl,_⟩:=hR.shape
 exact ⟨b,o,va,v1,v2,rfl,hR,hc 0 _ rfl,hc 1 _ rfl,hc 2 _ rfl,hc 3 _ rfl,hc 4 _ rfl,hc 5 _ rfl,hc 6 _ rfl⟩
mutual
def leftT (left:Int):Ty→Int
 |.mk _ _ _ args _ _=>leftTs (left-1) args
def leftTs (left:Int):List Ty→Int
 |[]=>left
 |t :: l=>if left<0 then left else leftTs (leftT left t) l
end
theorem leftT_eq (left:Int) (t:Ty):leftT left t=leftTs (left-1) t.args:=by cases t;rfl
theorem leftTs_neg (left:Int) (l:List Ty) (h:left<0):leftTs left l=left:=by
 cases l with
 |nil=>rfl
 |cons t l=>rw [leftTs,if_pos h]
mutual
theorem leftT_le (left:Int):∀ t:Ty,leftT left t≤left-1∧min (left-1) (-1)≤leftT left t
 |.mk _ _ _ args _ _=>leftTs_le (left-1) args
theorem leftTs_le (left:Int):∀ l:List Ty,leftTs left l≤left∧min left (-1)≤leftTs left l
 |[]=>by rw [leftTs];omega
 |t :: l=>by
  rw [leftTs]
  split
  ·omega
  ·have h1:=leftT_le left t
   have h2:=leftTs_le (leftT left t) l
   omega
end
theorem drop_cons {α:Type} {l:List α} {k:Nat} {x:α} (h:l[k]? =some x):l.drop k=x :: l.drop (k+1):=by
 obtain ⟨hk,rfl⟩:=List.getElem?_eq_some_iff.1 h
 exact List.drop_eq_getElem_cons hk
theorem typeLeft_any (n:Nat):∀ (w:World) (ρ:Ghost) (t:Ty) (va v1 v2:Value) (left:Int),TyR w ρ n t [.int .i64 t.kind, .int .i64 t.n, .string t.name,va, .int .i64 t.region,v1,v2]→ -1000≤left→left≤1000 →
 Calls Try.prog 18 #[.agg #[.int .i64 t.kind, .int .i64 t.n, .string t.name,va, .int .i64 t.region,v1,v2], .int .i64 left] w fun e w'=>e= .returned (.int .i64 (leftT left t))∧Below w.heap.size w w':=by
 induction n with
 |zero=>intro w ρ t va v1 v2 left h;exact h.elim
 |succ n ih =>
  intro w ρ t va v1 v2 left hR h1 h2
  obtain ⟨m,va',v1',v2',hm,hcs,_,_,_,_,hT,_,_⟩:=hR.shape
  simp only [List.cons.injEq,and_true,true_and] at hcs
  obtain ⟨rfl,rfl,rfl⟩:=hcs
  obtain rfl:n=m:=by omega
  rw [leftT_eq]
  generalize t.args=l at *
  obtain ⟨A,c,rfl,hlc,hcm⟩:=SlR.form hT
  have hlen:l.length≤9223372036854775807:=by unfold maxLen at hcm;omega
  have HT:=Hd.mk hT
  have HIH:=Hd.mk ih
  clear hT ih hR hm
  generalize t.kind=x0 at *
  generalize t.n=x1 at *
  generalize t.name=x2 at *
  generalize t.region=x4 at *
  have hs0:=(Step.refl (fun _=>False) w ρ).alloc (.cells #[.int .i64 x0, .int .i64 x1, .string x2, .slice A l.length c, .int .i64 x4,v1,v2] 43)
  have X:=Hd.mk (Blk.new' w #[.int .i64 x0, .int .i64 x1, .string x2, .slice A l.length c, .int .i64 x4,v1,v2] 43)
  have HS0:=Hd.mk hs0
  clear hs0
  go_enter Try.func18,Try.ntmps18
  go_wp2_with fail
  generalize w.alloc (.cells #[.int .i64 x0, .int .i64 x1, .string x2, .slice A l.length c, .int .i64 x4,v1,v2] 43)=W at *
  generalize w.heap.size=Xb at *
  go_loopw [1,5] (fun vl vk wr=>∃ (k:Nat) (lf:Int),vk= .int .i64 k∧vl= .int .i64 lf∧k≤l.length∧leftTs (left-1) l=leftTs lf (l.drop k)∧ -1001≤lf∧lf≤1000∧Step (fun _=>False) W ρ wr ρ) (fun _ v _=>l.length-(intOf v).toNat)
  case atStart=>exact ⟨0,left-1,by simp,by go_num,by omega,by simp,by omega,by omega,Step.refl _ _ _⟩
  case round =>
   obtain ⟨k,lf,rfl,rfl,hk,he,hb1,hb2,hS⟩:=hrel
   have HE:=Hd.mk he
   have HS:=Hd.mk hS
   have x3:=(hS.blk X.out (fun _ _ h=>h)).cell (i:=3) rfl
   clear he hS
   by_cases hlt:k<l.length
   ·by_cases hneg:lf<0
    ·go_wp2
     go_ret
     refine ⟨by rw [HE.out,leftTs_neg _ _ hneg];rfl,(HS0.out.trans HS.out).toBelow⟩
    ·obtain ⟨b,o,va,w1,w2,rfl,hT,p0,p1,p2,p3,p4,p5,p6⟩:=(HT.out.step (HS0.out.trans HS.out)).elem (List.getElem?_eq_getElem hlt)
     have hd:=drop_cons (List.getElem?_eq_getElem hlt)
     generalize l[k]=t at *
     have hc:=HIH.out wr ρ t va w1 w2 lf hT (by omega) hb2
     have HC:=Hd.mk hc
     have hle:=leftT_le lf t
     have hE:=HE.out
     rw [hd,leftTs,if_neg hneg] at hE
     have HE2:=Hd.mk hE
     clear hc hT hd hE HE
     generalize t.kind=y0 at *
     generalize t.n=y1 at *
     generalize t.name=y2 at *
     generalize t.region=y4 at *
     go_wp2_with fail
     refine HC.out.mono ?_
     rintro e w5 ⟨rfl,hb⟩
     have HS5:=Hd.mk (HS.out.of_below hb)
     clear p0 p1 p2 p3 p4 p5 p6 x3 hb HC
     go_wp2
     go_roundw
     case rel=>exact ⟨k+1,leftT lf t,by go_num,rfl,by omega,HE2.out,by omega,by omega,HS5.out⟩
     case measure=>simp [intOf];omega
   ·have hke:k=l.length:=by omega
    subst hke
    go_wp2
    go_ret
    refine ⟨by rw [HE.out,List.drop_length,leftTs];rfl,(HS0.out.trans HS.out).toBelow⟩
theorem TypesLeft_any (n:Nat) (w:World) (ρ:Ghost) (l:List Ty) (A:Option Addr) (c:Nat) (left:Int) (hT:TysR w ρ n (.slice A l.length c) l) (h1: -1000≤left) (h2:left≤1000) :
 Calls Try.prog 19 #[.slice A l.length c, .int .i64 left] w fun e w'=>e= .returned (.int .i64 (leftTs left l))∧Below w.heap.size w w':=by
 obtain ⟨A',c',hv,hlc,hcm⟩:=SlR.form hT
 cases hv
 have hlen:l.length≤9223372036854775807:=by unfold maxLen at hcm;omega
 have HT:=Hd.mk hT
 clear hT
 go_enter Try.func19,Try.ntmps19
 go_wp2_with fail
 go_loopw [1,5] (fun vl vk wr=>∃ (k:Nat) (lf:Int),vk= .int .i64 k∧vl= .int .i64 lf∧k≤l.length∧leftTs left l=leftTs lf (l.drop k)∧ -1001≤lf∧lf≤1000∧Step (fun _=>False) w ρ wr ρ) (fun _ v _=>l.length-(intOf v).toNat)
 case atStart=>exact ⟨0,left,by simp,rfl,by omega,by simp,by omega,by omega,Step.refl _ _ _⟩
 case round =>
  obtain ⟨k,lf,rfl,rfl,hk,he,hb1,hb2,hS⟩:=hrel
  have HE:=Hd.mk he
  have HS:=Hd.mk hS
  clear he hS
  by_cases hlt:k<l.length
  ·by_cases hneg:lf<0
   ·go_wp2
    go_ret
    refine ⟨by rw [HE.out,leftTs_neg _ _ hneg];rfl,HS.out.toBelow⟩
   ·obtain ⟨b,o,va,w1,w2,rfl,hT,p0,p1,p2,p3,p4,p5,p6⟩:=(HT.out.step HS.out).elem (List.getElem?_eq_getElem hlt)
    have hd:=drop_cons (List.getElem?_eq_getElem hlt)
    generalize l[k]=t at *
    have HC:=Hd.mk (typeLeft_any n wr ρ t va w1 w2 lf hT (by omega) hb2)
    have hle:=leftT_le lf t
    have hE:=HE.out
    rw [hd,leftTs,if_neg hneg] at hE
    have HE2:=Hd.mk hE
    clear hT hd hE HE
    generalize t.kind=y0 at *
    generalize t.n=y1 at *
    generalize t.name=y2 at *
    generalize t.region=y4 at *
    go_wp2_with fail
    refine HC.out.mono ?_
    rintro e w5 ⟨rfl,hb⟩
    have HS5:=Hd.mk (HS.out.of_below hb)
    clear p0 p1 p2 p3 p4 p5 p6 hb HC
    go_wp2
    go_roundw
    case rel=>exact ⟨k+1,leftT lf t,by go_num,rfl,by omega,HE2.out,by omega,by omega,HS5.out⟩
    case measure=>simp [intOf];omega
  ·have hke:k=l.length:=by omega
   subst hke
   go_wp2
   go_ret
   refine ⟨by rw [HE.out,List.drop_length,leftTs];rfl,HS.out.toBelow⟩
mutual
def leftB (left:Int):Bk→Int
 |.mk _ _ steps _=>leftSs (left-1) steps
def leftSs (left:Int):List St→Int
 |[]=>left
 |s :: l=>if left<0 then left else leftSs (leftS left s) l
def leftS (left:Int):St→Int
 |.mk _ _ ty _ _ _ types _ _ _ _ _ blocks=>leftBs (leftTs (leftT (left-1) ty) types) blocks
def leftBs (left:Int):List Bk→Int
 |[]=>left
 |b :: l=>if left<0 then left else leftBs (leftB left b) l
end
theorem leftB_eq (left:Int) (b:Bk):leftB left b=leftSs (left-1) b.steps:=by cases b;rfl
theorem leftS_eq (left:Int) (s:St):leftS left s=leftBs (leftTs (leftT (left-1) s.ty) s.types) s.blocks:=by cases s;rfl
theorem leftSs_neg (left:Int) (l:List St) (h:left<0):leftSs left l=left:=by
 cases l with
 |nil=>rfl
 |cons t l=>rw [leftSs,if_pos h]
theorem leftBs_neg (left:Int) (l:List Bk) (h:left<0):leftBs left l=left:=by
 cases l with
 |nil=>rfl
 |cons t l=>rw [leftBs,if_pos h]
mutual
theorem leftB_le (left:Int):∀ b:Bk,leftB left b≤left-1∧min (left-1) (-2)≤leftB left b
 |.mk _ _ steps _=>by
  have:=leftSs_le (left-1) steps
  rw [leftB]
  omega
theorem leftSs_le (left:Int):∀ l:List St,leftSs left l≤left∧min left (-2)≤leftSs left l
 |[]=>by rw [leftSs];omega
 |s :: l=>by
  rw [leftSs]
  split
  ·omega
  ·have h1:=leftS_le left s
   have h2:=leftSs_le (leftS left s) l
   omega
theorem leftS_le (left:Int):∀ s:St,leftS left s≤left-1∧(0≤left→ -2≤leftS left s)
 |.mk _ _ ty _ _ _ types _ _ _ _ _ blocks=>by
  have h1:=leftT_le (left-1) ty
  have h2:=leftTs_le (leftT (left-1) ty) types
  have h3:=leftBs_le (leftTs (leftT (left-1) ty) types) blocks
  rw [leftS]
  omega
theorem leftBs_le (left:Int):∀ l:List Bk,leftBs left l≤left∧min left (-2)≤leftBs left l
 |[]=>by rw [leftBs];omega
 |b :: l=>by
  rw [leftBs]
  split
  ·omega
  ·have h1:=leftB_le left b
   have h2:=leftBs_le (leftB left b) l
   omega
end
theorem BkR.shape {w:World} {ρ:Ghost} {n:Nat} {b:Bk} {cs:List Value} (h:BkR w ρ n b cs):∃ m vb vs,n=m+1∧cs=[.int .i64 b.code,vb,vs, .int .i64 b.value]∧I64 b.code∧I64 b.value∧IntsR w ρ vb b.bind∧SlR w ρ 19 320 (StR w ρ m (BkR w ρ m)) vs b.steps:=by
 cases n with
 |zero=>exact h.elim
 |succ m =>
  obtain ⟨vb,vs,h0,h1,h2,h3,h4⟩:=h
  exact ⟨m,vb,vs,rfl,h0,h1,h2,h3,h4⟩
def BksR (w:World) (ρ:Ghost) (n:Nat) (v:Value) (l:List Bk):Prop:=SlR w ρ 4 64 (BkR w ρ n) v l
def StsR (w:World) (ρ:Ghost) (n:Nat) (v:Value) (l:List St):Prop:=SlR w ρ 19 320 (StR w ρ n (BkR w ρ n)) v l
section
variable {T:Tag→Prop} {w w':World} {ρ ρ':Ghost} {n:Nat} {v:Value}
include T w w' ρ ρ' n v
theorem BksR.step {l:List Bk} (h:BksR w ρ n v l) (hs:Step T w ρ w' ρ'):BksR w' ρ' n v l:=SlR.step h hs (fun _ _ _ h=>BkR.step hs n h)
theorem StsR.step {l:List St} (h:StsR w ρ n v l) (hs:Step T w ρ w' ρ'):StsR w' ρ' n v l:=SlR.step h hs (fun _ _ _ h=>StR.step h hs (fun _ _ _ h=>BkR.step hs n h))
end
theorem BksR.elem {w:World} {ρ:Ghost} {n:Nat} {A:Option Addr} {len c:Nat} {l:List Bk} (h:BksR w ρ n (.slice A len c) l) {k:Nat} {t:Bk} (hk:l[k]? =some t) :
 ∃ b o vb vs,A=some ⟨b,o,none⟩∧BkR w ρ n t [.int .i64 t.code,vb,vs, .int .i64 t.value] ∧
  w.cell? ⟨b,o+k*4,none⟩=some (.int .i64 t.code)∧w.cell? ⟨b,o+k*4+1,none⟩=some vb∧w.cell? ⟨b,o+k*4+2,none⟩=some vs∧w.cell? ⟨b,o+k*4+3,none⟩=some (.int .i64 t.value):=by
 obtain ⟨b,o,cs,rfl,_,hR,hc⟩:=SlR.get h hk
 obtain ⟨m,vb,vs,rfl,rfl,_⟩:=hR.shape
 exact ⟨b,o,vb,vs,rfl,hR,hc 0 _ rfl,hc 1 _ rfl,hc 2 _ rfl,hc 3 _ rfl⟩
structure StV (w:World) (ρ:Ghost) (n:Nat) (s:St) (va0 v1 v2 va vt ve vr vm vk vb:Value):Prop where
 i1:I64 s.op
 i2:I64 s.out
 i3:I64 s.int
 i4:I64 s.code
 i5:I64 s.region
 ty:TyR w ρ n s.ty [.int .i64 s.ty.kind, .int .i64 s.ty.n, .string s.ty.name,va0, .int .i64 s.ty.region,v1,v2]
 args:IntsR w ρ va s.args
 types:TysR w ρ n vt s.types
 effs:SlR w ρ 2 48 (EffR w ρ) ve s.effs
 regs:IntsR w ρ vr s.regs
 modes:IntsR w ρ vm s.modes
 keep:IntsR w ρ vk s.keep
 blocks:BksR w ρ n vb s.blocks
def stCells (s:St) (va0 v1 v2 va vt ve vr vm vk vb:Value):List Value :=
 [.int .i64 s.op, .int .i64 s.out, .int .i64 s.ty.kind, .int .i64 s.ty.n, .string s.ty.name,va0, .int .i64 s.ty.region,v1,v2,va, .int .i64 s.int, .int .i64 s.code,vt,ve,vr,vm, .int .i64 s.region,vk,vb]
theorem StR.shape {w:World} {ρ:Ghost} {n:Nat} {s:St} {cs:List Value} (h:StR w ρ n (BkR w ρ n) s cs):∃ va0 v1 v2 va vt ve vr vm vk vb,cs=stCells s va0 v1 v2 va vt ve vr vm vk vb∧StV w ρ n s va0 v1 v2 va vt ve vr vm vk vb:=by
 obtain ⟨ct,va,vt,ve,vr,vm,vk,vb,h0,h1,h2,h3,h4,h5,h6,h7,h8,h9,h10,h11,h12,h13⟩:=h
 obtain ⟨m,va0,v1,v2,rfl,rfl,_⟩:=h6.shape
 exact ⟨va0,v1,v2,va,vt,ve,vr,vm,vk,vb,h0,⟨h1,h2,h3,h4,h5,h6,h7,h8,h9,h10,h11,h12,h13⟩⟩
theorem StV.step {T:Tag→Prop} {w w':World} {ρ ρ':Ghost} {n:Nat} {s:St} {va0 v1 v2 va vt ve vr vm vk vb:Value} (h:StV w ρ n s va0 v1 v2 va vt ve vr vm vk vb) (hs:Step T w ρ w' ρ'):StV w' ρ' n s va0 v1 v2 va vt ve vr vm vk vb :=
 ⟨h.i1,h.i2,h.i3,h.i4,h.i5,TyR.step hs n h.ty,h.args.step hs,h.types.step hs,h.effs.step hs (fun _ _ _ h=>h.step hs),h.regs.step hs,h.modes.step hs,h.keep.step hs,h.blocks.step hs⟩
def CellsAt (w:World) (b o:Nat) (cs:List Value):Prop:=∀ j u,cs[j]? =some u→w.cell? ⟨b,o+j,none⟩=some u
theorem StsR.elem {w:World} {ρ:Ghost} {n:Nat} {A:Option Addr} {len c:Nat} {l:List St} (h:StsR w ρ n (.slice A len c) l) {k:Nat} {s:St} (hk:l[k]? =some s) :
 ∃ b o va0 v1 v2 va vt ve vr vm vk vb,A=some ⟨b,o,none⟩∧StV w ρ n s va0 v1 v2 va vt ve vr vm vk vb∧CellsAt w b (o+k*19) (stCells s va0 v1 v2 va vt ve vr vm vk vb):=by
 obtain ⟨b,o,cs,rfl,_,hR,hc⟩:=SlR.get h hk
 obtain ⟨va0,v1,v2,va,vt,ve,vr,vm,vk,vb,rfl,hV⟩:=StR.shape hR
 exact ⟨b,o,va0,v1,v2,va,vt,ve,vr,vm,vk,vb,rfl,hV,hc⟩
theorem wpList_store_new {P:Program} {ops:Array Oper} {rest:List Oper} {op:Oper} {a:Act} {W:World} {Q:Exit→Act→World→Prop} (hgd:op.guard=none) (ty:TypeId) (x y:Operand) (ho:op.op= .store ty x y) (Z cells:Array Value) (hx:a.eval x= .pointer (some ⟨W.heap.size,0,none⟩)) (hy:a.eval y= .agg cells) (hi:(P.info? ty).map (·.size)=some cells.size) (hz:Z.size=cells.size) (h1:cells.all (·.oneCell')=true) (h:wpList P ops Q rest (a.put op.dst undef) (W.alloc (.cells cells ty))):wpList P ops Q (op :: rest) a (W.alloc (.cells Z ty)):=by
 refine wpList_plain hgd fun _ hK=>?_
 unfold Oper.wp execOp
 simp only [ho,hx,hy,Sem.run_bind,Sem.run_pure,run_storeAt_new (P:=P) W ty Z cells hi hz h1,Result.andThen_ok]
 exact hK _ _ h
theorem stCells_one (s:St) (A0 A1 A2 A3 A4 A5 A6 A7 A8 A9:Option Addr) (n0 n1 n2 n3 n4 n5 n6 n7 n8 n9 c0 c1 c2 c3 c4 c5 c6 c7 c8 c9:Nat) :
 (stCells s (.slice A0 n0 c0) (.slice A1 n1 c1) (.slice A2 n2 c2) (.slice A3 n3 c3) (.slice A4 n4 c4) (.slice A5 n5 c5) (.slice A6 n6 c6) (.slice A7 n7 c7) (.slice A8 n8 c8) (.slice A9 n9 c9)).toArray.all (·.oneCell')=true:=by simp [stCells,Value.oneCell']
end
section
open Go Go.RowKit
theorem blockLeft_any (n:Nat):∀ (w:World) (ρ:Ghost) (t:Bk) (vb vs:Value) (left:Int),BkR w ρ n t [.int .i64 t.code,vb,vs, .int .i64 t.value]→ -900≤left→left≤900 →
 Calls Try.prog 20 #[.agg #[.int .i64 t.code,vb,vs, .int .i64 t.value], .int .i64 left] w fun e w'=>e= .returned (.int .i64 (leftB left t))∧Below w.heap.size w w':=by
 induction n with
 |zero=>intro w ρ t vb vs left h;exact h.elim
 |succ n ih =>
  intro w ρ t vb vs left hR h1 h2
  obtain ⟨m,vb',vs',hm,hcs,_,_,_,hT⟩:=hR.shape
  simp only [List.cons.injEq,and_true,true_and] at hcs
  obtain ⟨rfl,rfl⟩:=hcs
  obtain rfl:n=m:=by omega
  have hT:StsR w ρ n vs t.steps:=hT
  rw [leftB_eq]
  generalize t.steps=l at *
  obtain ⟨A,c,rfl,hlc,hcm⟩:=SlR.form hT
  have hlen:l.length≤9223372036854775807:=by unfold maxLen at hcm;omega
  have HT:=Hd.mk hT
  have HIH:=Hd.mk ih
  clear hT ih hR hm
  generalize t.code=x0 at *
  generalize t.value=x3 at *
  have hs0:=(Step.refl (fun _=>False) w ρ).alloc (.cells #[.int .i64 x0,vb, .slice A l.length c, .int .i64 x3] 46)
  have X:=Hd.mk (Blk.new' w #[.int .i64 x0,vb, .slice A l.length c, .int .i64 x3] 46)
  have HS0:=Hd.mk hs0
  clear hs0
  go_enter Try.func20,Try.ntmps20
  go_wp2_with fail
  generalize w.alloc (.cells #[.int .i64 x0,vb, .slice A l.length c, .int .i64 x3] 46)=W at *
  generalize w.heap.size=Xb at *
  go_loopw [1,5] (fun vl vk wr=>∃ (k:Nat) (lf:Int),vk= .int .i64 k∧vl= .int .i64 lf∧k≤l.length∧leftSs (left-1) l=leftSs lf (l.drop k)∧ -901≤lf∧lf≤900∧Step (fun _=>False) W ρ wr ρ) (fun _ v _=>l.length-(intOf v).toNat)
  case atStart=>exact ⟨0,left-1,by simp,by go_num,by omega,by simp,by omega,by omega,Step.refl _ _ _⟩
  case round =>
   obtain ⟨k,lf,rfl,rfl,hk,he,hb1,hb2,hS⟩:=hrel
   have HE:=Hd.mk he
   have HS:=Hd.mk hS
   have x2:=(hS.blk X.out (fun _ _ h=>h)).cell (i:=2) rfl
   clear he hS
   by_cases hlt:k<l.length
   ·by_cases hneg:lf<0
    ·go_wp2
     go_ret
     refine ⟨by rw [HE.out,leftSs_neg _ _ hneg];rfl,(HS0.out.trans HS.out).toBelow⟩
    ·obtain ⟨b,o,va0,v1,v2,va,vt,ve,vr,vm,vk,vb2,rfl,hV,hc⟩:=(HT.out.step (HS0.out.trans HS.out)).elem (List.getElem?_eq_getElem hlt)
     have hd:=drop_cons (List.getElem?_eq_getElem hlt)
     generalize l[k]=s at *
     obtain ⟨_,_,_,_,_,hty,_,_,_,_,hy0,hy1,hy2⟩:=TyR.shape hV.ty
     simp only [List.cons.injEq,and_true,true_and] at hty
     obtain ⟨rfl,rfl,rfl⟩:=hty
     obtain ⟨a0,k0,rfl,hl0,hm0⟩:=SlR.form hy0
     obtain ⟨a1,k1,rfl,hl1,hm1⟩:=SlR.form hy1
     obtain ⟨a2,k2,rfl,hl2,hm2⟩:=SlR.form hy2
     obtain ⟨a3,k3,rfl,hl3,hm3⟩:=SlR.form hV.args
     obtain ⟨a4,k4,rfl,hl4,hm4⟩:=SlR.form hV.types
     obtain ⟨a5,k5,rfl,hl5,hm5⟩:=SlR.form hV.effs
     obtain ⟨a6,k6,rfl,hl6,hm6⟩:=SlR.form hV.regs
     obtain ⟨a7,k7,rfl,hl7,hm7⟩:=SlR.form hV.modes
     obtain ⟨a8,k8,rfl,hl8,hm8⟩:=SlR.form hV.keep
     obtain ⟨a9,k9,rfl,hl9,hm9⟩:=SlR.form hV.blocks
     clear hy0 hy1 hy2
     have HV:=Hd.mk hV
     have hle:=leftS_le lf s
     have hle1:=leftT_le (lf-1) s.ty
     have hbA: -1000≤leftT (lf-1) s.ty:=by omega
     have hbB:leftT (lf-1) s.ty≤1000:=by omega
     have hle2:=leftTs_le (leftT (lf-1) s.ty) s.types
     have hE:=HE.out
     rw [hd,leftSs,if_neg hneg,leftS_eq] at hE
     rw [leftS_eq] at hle
     have HE2:=Hd.mk hE
     have hzb: -2≤leftTs (leftT (lf-1) s.ty) s.types∧leftTs (leftT (lf-1) s.ty) s.types≤900:=by omega
     have HL:=Hd.mk hle
     clear hle hle1 hle2
     have hblen:s.blocks.length≤9223372036854775807:=by unfold maxLen at hm9;omega
     clear hm0 hm1 hm2 hm3 hm4 hm5 hm6 hm7 hm8 hl0 hl1 hl2 hl3 hl4 hl5 hl6 hl7 hl8
     have hul:Try.prog.underlying 94=some _:=Try.underlying94
     have hin:(Try.prog.info? 94).map (·.size)=some 19:=by kernel_rfl
     generalize hcs:stCells s _ _ _ _ _ _ _ _ _ _=cs at hc
     have hcl:cs.length=19:=by rw [←hcs];rfl
     have hone:cs.toArray.all (·.oneCell')=true:=by rw [←hcs];exact stCells_one ..
     have hs1:=(Step.refl (fun _=>False) wr ρ).alloc (.cells cs.toArray 94)
     have xs:=Blk.new' wr cs.toArray 94
     have HS1:=Hd.mk hs1
     have XS0:=Hd.mk xs
     have HCS:=Hd.mk hcs
     have hin2:(Try.prog.info? 94).map (·.size)=some cs.length:=by rw [hcl];exact hin
     have HCC:Hd (wr.rangeAt b (o+k*19) cs):=⟨hc⟩
     have HIN:=Hd.mk hin2
     have HSZ:Hd (cs.toArray.size=19):=⟨by rw [List.size_toArray,hcl]⟩
     have HON:=Hd.mk hone
     clear hc hd hE HE hV hs1 xs hin hone hcs hin2 hul
     go_wp2_with (first|(refine wpList_load_mid rfl 94 _ rfl b (o+k*19) rfl cs _ HCC.out Try.underlying94 rfl HIN.out ?_)|(refine wpList_store_new rfl 94 _ _ rfl _ cs.toArray rfl rfl (by rw [List.size_toArray];exact HIN.out) (Eq.trans rfl HSZ.out.symm) HON.out ?_))
     generalize wr.alloc (.cells cs.toArray 94)=W1 at *
     generalize wr.heap.size=Xs at *
     clear x2
     have HSd:=Hd.mk (HS1.out.drew)
     have HVd:=Hd.mk (HV.out.step HS1.out.drew)
     have xs0:Blk W1.drew Xs 94 cs:=XS0.out
     rw [←HCS.out] at xs0
     have XS:=Hd.mk xs0
     clear xs0
     have d2:W1.drew.cell? ⟨Xs,2,none⟩=some (.int .i64 s.ty.kind):=XS.out.cell (i:=2) rfl
     have d3:W1.drew.cell? ⟨Xs,3,none⟩=some (.int .i64 s.ty.n):=XS.out.cell (i:=3) rfl
     have d4:W1.drew.cell? ⟨Xs,4,none⟩=some (.string s.ty.name):=XS.out.cell (i:=4) rfl
     have d5:W1.drew.cell? ⟨Xs,5,none⟩=some (.slice a0 s.ty.args.length k0):=XS.out.cell (i:=5) rfl
     have d6:W1.drew.cell? ⟨Xs,6,none⟩=some (.int .i64 s.ty.region):=XS.out.cell (i:=6) rfl
     have d7:W1.drew.cell? ⟨Xs,7,none⟩=some (.slice a1 s.ty.eff.regs.length k1):=XS.out.cell (i:=7) rfl
     have d8:W1.drew.cell? ⟨Xs,8,none⟩=some (.slice a2 s.ty.eff.vars.length k2):=XS.out.cell (i:=8) rfl
     have d12:W1.drew.cell? ⟨Xs,12,none⟩=some (.slice a4 s.types.length k4):=XS.out.cell (i:=12) rfl
     have hc1:=typeLeft_any n W1.drew ρ s.ty _ _ _ (lf-1) HVd.out.ty (by omega) (by omega)
     have hc2:∀ W',Step (fun _=>False) wr ρ W' ρ→Calls Try.prog 19 #[.slice a4 s.types.length k4, .int .i64 (leftT (lf-1) s.ty)] W' fun e w'=>e= .returned (.int .i64 (leftTs (leftT (lf-1) s.ty) s.types))∧Below W'.heap.size W' w':=fun W' hs=>TypesLeft_any n W' ρ s.types a4 k4 _ (HV.out.types.step hs) hbA hbB
     obtain ⟨z2,hz2⟩:∃ z,leftTs (leftT (lf-1) s.ty) s.types=z:=⟨_,rfl⟩
     obtain ⟨z1,hz1⟩:∃ z,leftT (lf-1) s.ty=z:=⟨_,rfl⟩
     rw [hz2,hz1] at hc2
     rw [hz1] at hc1
     rw [hz2] at hzb
     have HLz:=HL.out
     have HEz:=HE2.out
     rw [hz2] at HLz HEz
     have HL3:=Hd.mk HLz
     have HE3:=Hd.mk HEz
     clear HLz HEz HL HE2
     have HC1:=Hd.mk hc1
     have HC2:=Hd.mk hc2
     clear hc1 hc2 hz1 hz2 hbA hbB
     have ewr:IntKind.i64.wrap (lf-1)=lf-1:=IntWalk.i64_in _ (by omega)
     go_region_held3 (fun wv=>wv.cell? ⟨Xs,2,none⟩=some (.int .i64 s.ty.kind)∧wv.cell? ⟨Xs,3,none⟩=some (.int .i64 s.ty.n)∧wv.cell? ⟨Xs,4,none⟩=some (.string s.ty.name)∧wv.cell? ⟨Xs,5,none⟩=some (.slice a0 s.ty.args.length k0)∧wv.cell? ⟨Xs,6,none⟩=some (.int .i64 s.ty.region)∧wv.cell? ⟨Xs,7,none⟩=some (.slice a1 s.ty.eff.regs.length k1)∧wv.cell? ⟨Xs,8,none⟩=some (.slice a2 s.ty.eff.vars.length k2)∧wv.cell? ⟨Xs,12,none⟩=some (.slice a4 s.types.length k4)) (first|assumption|(refine ⟨?_,?_,?_,?_,?_,?_,?_,?_⟩ <;> assumption)) (first|(go_at_call 18;refine HC1.out.mono ?_;rintro e W5 ⟨rfl,hb⟩;have hs5:=(Step.refl (fun _=>False) W1.drew ρ).of_below hb;have HS5:=Hd.mk (HSd.out.of_below hb);have XS5:=Hd.mk (hs5.blk XS.out (fun _ _ h=>h));have f2:=XS5.out.cell (i:=2) rfl;have f3:=XS5.out.cell (i:=3) rfl;have f4:=XS5.out.cell (i:=4) rfl;have f5:=XS5.out.cell (i:=5) rfl;have f6:=XS5.out.cell (i:=6) rfl;have f7:=XS5.out.cell (i:=7) rfl;have f8:=XS5.out.cell (i:=8) rfl;have f12:=XS5.out.cell (i:=12) rfl;clear hs5 hb)|(go_at_call 19;refine (HC2.out W5 HS5.out).mono ?_;rintro e W6 ⟨rfl,hb⟩;have hs5:=(Step.refl (fun _=>False) W5 ρ).of_below hb;have HS6:=Hd.mk (HS5.out.of_below hb);have XS6:=Hd.mk (hs5.blk XS5.out (fun _ _ h=>h));have g2:=XS6.out.cell (i:=2) rfl;have g3:=XS6.out.cell (i:=3) rfl;have g4:=XS6.out.cell (i:=4) rfl;have g5:=XS6.out.cell (i:=5) rfl;have g6:=XS6.out.cell (i:=6) rfl;have g7:=XS6.out.cell (i:=7) rfl;have g8:=XS6.out.cell (i:=8) rfl;have g12:=XS6.out.cell (i:=12) rfl;clear hs5 hb))
     have g18:=XS6.out.cell (i:=18) rfl
     have HB6:=Hd.mk (HV.out.step HS6.out).blocks
     have g2':=((HS.out.trans HS6.out).blk X.out (fun _ _ h=>h))
     have HX6:=Hd.mk g2'
     clear d2 d3 d4 d5 d6 d7 d8 d12 f2 f3 f4 f5 f6 f7 f8 f12 g2 g3 g4 g5 g6 g7 g8 g12 g2' HC1 HC2
     go_wp2_with fail
     go_loopw [1,7] (fun vl vi wq=>∃ (i:Nat) (lq:Int),vi= .int .i64 i∧vl= .int .i64 lq∧i≤s.blocks.length∧leftBs z2 s.blocks=leftBs lq (s.blocks.drop i)∧ -2≤lq∧lq≤900∧Step (fun _=>False) W6 ρ wq ρ) (fun _ v _=>s.blocks.length-(intOf v).toNat)
     case atStart=>exact ⟨0,z2,by simp,rfl,by omega,by simp,by omega,by omega,Step.refl _ _ _⟩
     case round =>
      obtain ⟨i,lq,rfl,rfl,hi,hei,hq1,hq2,hSq⟩:=hrel
      have HEI:=Hd.mk hei
      have HSQ:=Hd.mk hSq
      have y18:=(hSq.blk XS6.out (fun _ _ h=>h)).cell (i:=18) rfl
      clear hei hSq
      by_cases hltq:i<s.blocks.length
      ·by_cases hnegq:lq<0
       ·have hfin:=HEI.out
        rw [leftBs_neg _ _ hnegq] at hfin
        have hl3:=HL3.out
        rw [hfin] at hl3
        have HFI:=Hd.mk hfin
        clear hfin
        go_wp2
        go_roundw
        case rel=>exact ⟨k+1,lq,by go_num,rfl,by omega,by rw [←HFI.out];exact HE3.out,by omega,by omega,(HS.out.trans HS6.out).trans HSQ.out⟩
        case measure=>simp [intOf];omega
       ·obtain ⟨b',o',vb',vs',hA9,hR,p0,p1,p2,p3⟩:=(HB6.out.step HSQ.out).elem (List.getElem?_eq_getElem hltq)
        subst hA9
        have hdq:=drop_cons (List.getElem?_eq_getElem hltq)
        generalize s.blocks[i]=bq at *
        have hleq:=leftB_le lq bq
        have hEq:=HEI.out
        rw [hdq,leftBs,if_neg hnegq] at hEq
        have hcq:=HIH.out wr ρ bq vb' vs' lq hR (by omega) (by omega)
        obtain ⟨z3,hz3⟩:∃ z,leftB lq bq=z:=⟨_,rfl⟩
        rw [hz3] at hcq hEq hleq
        have HCQ:=Hd.mk hcq
        have HEQ:=Hd.mk hEq
        clear hcq hEq hR hdq hz3 HEI
        generalize bq.code=y0 at *
        generalize bq.value=y3 at *
        go_wp2_with fail
        refine HCQ.out.mono ?_
        rintro e w5 ⟨rfl,hb⟩
        have HSQ5:=Hd.mk (HSQ.out.of_below hb)
        clear p0 p1 p2 p3 y18 hb HCQ
        go_wp2
        go_roundw
        case rel=>exact ⟨i+1,z3,by go_num,rfl,by omega,HEQ.out,by omega,by omega,HSQ5.out⟩
        case measure=>simp [intOf];omega
      ·have hie:i=s.blocks.length:=by omega
       subst hie
       have hfin:=HEI.out
       rw [List.drop_length,leftBs] at hfin
       have hl3:=HL3.out
       rw [hfin] at hl3
       have HFI:=Hd.mk hfin
       clear hfin
       go_wp2
       go_roundw
       case rel=>exact ⟨k+1,lq,by go_num,rfl,by omega,by rw [←HFI.out];exact HE3.out,by omega,by omega,(HS.out.trans HS6.out).trans HSQ.out⟩
       case measure=>simp [intOf];omega
   ·have hke:k=l.length:=by omega
    subst hke
    go_wp2
    go_ret
    refine ⟨by rw [HE.out,List.drop_length,leftSs];rfl,(HS0.out.trans HS.out).toBelow⟩
end
section
open Go Go.RowKit
structure FuV (w:World) (ρ:Ghost) (n:Nat) (f:Fu) (e1 e2 vp va0 r1 r2 vb vs:Value):Prop where
 nm:f.name.size≤maxLen
 i1:I64 f.unit
 i2:I64 f.types
 i3:I64 f.regions
 i4:I64 f.effects
 t1:IntsR w ρ e1 f.touch.regs
 t2:IntsR w ρ e2 f.touch.vars
 params:TysR w ρ n vp f.params
 result:TyR w ρ n f.result [.int .i64 f.result.kind, .int .i64 f.result.n, .string f.result.name,va0, .int .i64 f.result.region,r1,r2]
 body:BkR w ρ n f.body [.int .i64 f.body.code,vb,vs, .int .i64 f.body.value]
def fuCells (f:Fu) (e1 e2 vp va0 r1 r2 vb vs:Value):List Value :=
 [.string f.name, .int .i64 f.unit, .int .i64 f.types, .int .i64 f.regions, .int .i64 f.effects,e1,e2,vp, .int .i64 f.result.kind, .int .i64 f.result.n, .string f.result.name,va0, .int .i64 f.result.region,r1,r2, .int .i64 f.body.code,vb,vs, .int .i64 f.body.value]
def FusR (w:World) (ρ:Ghost) (n:Nat) (v:Value) (l:List Fu):Prop:=SlR w ρ 19 296 (FuR w ρ n) v l
def DatsR (w:World) (ρ:Ghost) (n:Nat) (v:Value) (l:List Dat):Prop:=SlR w ρ 3 64 (DatR w ρ n) v l
def ConsR (w:World) (ρ:Ghost) (n:Nat) (v:Value) (l:List Con):Prop:=SlR w ρ 2 40 (ConR w ρ n) v l
section
variable {T:Tag→Prop} {w w':World} {ρ ρ':Ghost} {n:Nat}
include T w w' ρ ρ' n
theorem FusR.step {v:Value} {l:List Fu} (h:FusR w ρ n v l) (hs:Step T w ρ w' ρ'):FusR w' ρ' n v l:=SlR.step h hs (fun _ _ _ h=>h.step hs)
theorem DatsR.step {v:Value} {l:List Dat} (h:DatsR w ρ n v l) (hs:Step T w ρ w' ρ'):DatsR w' ρ' n v l:=SlR.step h hs (fun _ _ _ h=>h.step hs)
theorem ConsR.step {v:Value} {l:List Con} (h:ConsR w ρ n v l) (hs:Step T w ρ w' ρ'):ConsR w' ρ' n v l:=SlR.step h hs (fun _ _ _ h=>h.step hs)
theorem FuV.step {f:Fu} {e1 e2 vp va0 r1 r2 vb vs:Value} (h:FuV w ρ n f e1 e2 vp va0 r1 r2 vb vs) (hs:Step T w ρ w' ρ'):FuV w' ρ' n f e1 e2 vp va0 r1 r2 vb vs :=
 ⟨h.nm,h.i1,h.i2,h.i3,h.i4,h.t1.step hs,h.t2.step hs,h.params.step hs,TyR.step hs n h.result,BkR.step hs n h.body⟩
end
theorem FuR.shape {w:World} {ρ:Ghost} {n:Nat} {f:Fu} {cs:List Value} (h:FuR w ρ n f cs):∃ e1 e2 vp va0 r1 r2 vb vs,cs=fuCells f e1 e2 vp va0 r1 r2 vb vs∧FuV w ρ n f e1 e2 vp va0 r1 r2 vb vs:=by
 obtain ⟨ce,vp,cr,cb,h0,h1,h2,h3,h4,h5,h6,h7,h8,h9⟩:=h
 obtain ⟨e1,e2,rfl,ht1,ht2⟩:=h6
 obtain ⟨m,va0,r1,r2,rfl,rfl,_⟩:=h8.shape
 obtain ⟨m',vb,vs,hm,rfl,_⟩:=h9.shape
 exact ⟨e1,e2,vp,va0,r1,r2,vb,vs,h0,⟨h1,h2,h3,h4,h5,ht1,ht2,h7,h8,h9⟩⟩
theorem FusR.elem {w:World} {ρ:Ghost} {n:Nat} {A:Option Addr} {len c:Nat} {l:List Fu} (h:FusR w ρ n (.slice A len c) l) {k:Nat} {f:Fu} (hk:l[k]? =some f) :
 ∃ b o e1 e2 vp va0 r1 r2 vb vs,A=some ⟨b,o,none⟩∧FuV w ρ n f e1 e2 vp va0 r1 r2 vb vs∧CellsAt w b (o+k*19) (fuCells f e1 e2 vp va0 r1 r2 vb vs):=by
 obtain ⟨b,o,cs,rfl,_,hR,hc⟩:=SlR.get h hk
 obtain ⟨e1,e2,vp,va0,r1,r2,vb,vs,rfl,hV⟩:=hR.shape
 exact ⟨b,o,e1,e2,vp,va0,r1,r2,vb,vs,rfl,hV,hc⟩
theorem fuCells_one (f:Fu) (A0 A1 A2 A3 A4 A5 A6 A7:Option Addr) (n0 n1 n2 n3 n4 n5 n6 n7 c0 c1 c2 c3 c4 c5 c6 c7:Nat) :
 (fuCells f (.slice A0 n0 c0) (.slice A1 n1 c1) (.slice A2 n2 c2) (.slice A3 n3 c3) (.slice A4 n4 c4) (.slice A5 n5 c5) (.slice A6 n6 c6) (.slice A7 n7 c7)).toArray.all (·.oneCell')=true:=by simp [fuCells,Value.oneCell']
section
variable {w:World} {ρ:Ghost} {n:Nat} {A:Option Addr} {len c:Nat}
include w ρ n A len c
theorem ConsR.elem {l:List Con} (h:ConsR w ρ n (.slice A len c) l) {k:Nat} {t:Con} (hk:l[k]? =some t) :
 ∃ b o A' c',A=some ⟨b,o,none⟩∧TysR w ρ n (.slice A' t.fields.length c') t.fields∧t.name.size≤maxLen∧w.cell? ⟨b,o+k*2,none⟩=some (.string t.name)∧w.cell? ⟨b,o+k*2+1,none⟩=some (.slice A' t.fields.length c'):=by
 obtain ⟨b,o,cs,rfl,_,hR,hc⟩:=SlR.get h hk
 obtain ⟨v,rfl,hn,hT⟩:=hR
 obtain ⟨A',c',rfl,_,_⟩:=SlR.form hT
 exact ⟨b,o,A',c',rfl,hT,hn,hc 0 _ rfl,hc 1 _ rfl⟩
theorem DatsR.elem {l:List Dat} (h:DatsR w ρ n (.slice A len c) l) {k:Nat} {d:Dat} (hk:l[k]? =some d) :
 ∃ b o A1 c1 A2 c2,A=some ⟨b,o,none⟩∧StrsR w ρ (.slice A1 d.vars.length c1) d.vars∧ConsR w ρ n (.slice A2 d.cons.length c2) d.cons ∧
  w.cell? ⟨b,o+k*3,none⟩=some (.string d.name)∧w.cell? ⟨b,o+k*3+1,none⟩=some (.slice A1 d.vars.length c1)∧w.cell? ⟨b,o+k*3+2,none⟩=some (.slice A2 d.cons.length c2):=by
 obtain ⟨b,o,cs,rfl,_,hR,hc⟩:=SlR.get h hk
 obtain ⟨v1,v2,rfl,hn,h1,h2⟩:=hR
 obtain ⟨A1,c1,rfl,_,_⟩:=SlR.form h1
 obtain ⟨A2,c2,rfl,_,_⟩:=SlR.form h2
 exact ⟨b,o,A1,c1,A2,c2,rfl,h1,h2,hc 0 _ rfl,hc 1 _ rfl,hc 2 _ rfl⟩
end
def leftCs (left:Int):List Con→Int
 |[]=>left
 |c :: l=>if left<0 then left else leftCs (leftTs left c.fields) l
def leftDs (left:Int):List Dat→Int
 |[]=>left
 |d :: l=>if left<0 then left else leftDs (leftCs left d.cons) l
def leftF1 (left:Int) (f:Fu):Int:=leftT (leftTs (left-1) f.params) f.result
def leftF (left:Int) (f:Fu):Int:=if leftF1 left f<0 then leftF1 left f else leftB (leftF1 left f) f.body
def leftFs (left:Int):List Fu→Int
 |[]=>left
 |f :: l=>if left<0 then left else leftFs (leftF left f) l
def withinP (p:Pg) (most:Int):Bool:=decide (0≤leftFs (leftDs most p.datas) p.funs)
section
variable (left:Int)
include left
theorem leftCs_neg (l:List Con) (h:left<0):leftCs left l=left:=by
 cases l with
 |nil=>rfl
 |cons t l=>rw [leftCs,if_pos h]
theorem leftDs_neg (l:List Dat) (h:left<0):leftDs left l=left:=by
 cases l with
 |nil=>rfl
 |cons t l=>rw [leftDs,if_pos h]
theorem leftFs_neg (l:List Fu) (h:left<0):leftFs left l=left:=by
 cases l with
 |nil=>rfl
 |cons t l=>rw [leftFs,if_pos h]
theorem leftCs_le (l:List Con):leftCs left l≤left∧min left (-2)≤leftCs left l:=by
 induction l generalizing left with
 |nil=>rw [leftCs];omega
 |cons c l ih =>
  rw [leftCs]
  split
  ·omega
  ·have h1:=leftTs_le left c.fields
   have h2:=ih (leftTs left c.fields)
   omega
theorem leftF1_le (f:Fu):leftF1 left f≤left∧(0≤left→ -2≤leftF1 left f):=by
 have h1:=leftTs_le (left-1) f.params
 have h2:=leftT_le (leftTs (left-1) f.params) f.result
 unfold leftF1
 omega
theorem leftF_le (f:Fu):leftF left f≤left∧(0≤left→ -2≤leftF left f):=by
 have h1:=leftF1_le left f
 unfold leftF
 split
 ·exact h1
 ·have h2:=leftB_le (leftF1 left f) f.body
  omega
end
theorem consLeft_any (n:Nat) (w:World) (ρ:Ghost) (l:List Con) (A:Option Addr) (c:Nat) (left:Int) (hT:ConsR w ρ n (.slice A l.length c) l) (h1: -900≤left) (h2:left≤900) :
 Calls Try.prog 17 #[.slice A l.length c, .int .i64 left] w fun e w'=>e= .returned (.int .i64 (leftCs left l))∧Below w.heap.size w w':=by
 obtain ⟨A',c',hv,hlc,hcm⟩:=SlR.form hT
 cases hv
 have hlen:l.length≤9223372036854775807:=by unfold maxLen at hcm;omega
 have HT:=Hd.mk hT
 clear hT
 go_enter Try.func17,Try.ntmps17
 go_wp2_with fail
 go_loopw [1,5] (fun vl vk wr=>∃ (k:Nat) (lf:Int),vk= .int .i64 k∧vl= .int .i64 lf∧k≤l.length∧leftCs left l=leftCs lf (l.drop k)∧ -901≤lf∧lf≤900∧Step (fun _=>False) w ρ wr ρ) (fun _ v _=>l.length-(intOf v).toNat)
 case atStart=>exact ⟨0,left,by simp,rfl,by omega,by simp,by omega,by omega,Step.refl _ _ _⟩
 case round =>
  obtain ⟨k,lf,rfl,rfl,hk,he,hb1,hb2,hS⟩:=hrel
  have HE:=Hd.mk he
  have HS:=Hd.mk hS
  clear he hS
  by_cases hlt:k<l.length
  ·by_cases hneg:lf<0
   ·go_wp2
    go_ret
    refine ⟨by rw [HE.out,leftCs_neg _ _ hneg];rfl,HS.out.toBelow⟩
   ·obtain ⟨b,o,A',c',hA,hT,_,_,p1⟩:=(HT.out.step HS.out).elem (List.getElem?_eq_getElem hlt)
    subst hA
    have hd:=drop_cons (List.getElem?_eq_getElem hlt)
    generalize l[k]=t at *
    have hc:=TypesLeft_any n wr ρ t.fields A' c' lf hT (by omega) (by omega)
    have hle:=leftTs_le lf t.fields
    have hE:=HE.out
    rw [hd,leftCs,if_neg hneg] at hE
    obtain ⟨z,hz⟩:∃ z,leftTs lf t.fields=z:=⟨_,rfl⟩
    rw [hz] at hc hle hE
    have HE2:=Hd.mk hE
    have HC:=Hd.mk hc
    clear hT hd hE HE hc hz
    go_wp2_with fail
    refine HC.out.mono ?_
    rintro e w5 ⟨rfl,hb⟩
    have HS5:=Hd.mk (HS.out.of_below hb)
    clear p1 hb HC
    go_wp2
    go_roundw
    case rel=>exact ⟨k+1,z,by go_num,rfl,by omega,HE2.out,by omega,by omega,HS5.out⟩
    case measure=>simp [intOf];omega
  ·have hke:k=l.length:=by omega
   subst hke
   go_wp2
   go_ret
   refine ⟨by rw [HE.out,List.drop_length,leftCs];rfl,HS.out.toBelow⟩
end
end Go.Proofs.Ytadffbgbndibpaa
