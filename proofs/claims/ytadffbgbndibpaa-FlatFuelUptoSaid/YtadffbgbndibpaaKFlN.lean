/- FlN: lemmas and walks of the claim. -/
import Derived.Test.YtadffbgbndibpaaKFlP
set_option linter.unusedSectionVars false
set_option linter.unusedVariables false
set_option linter.unusedSimpArgs false
set_option maxHeartbeats 16000000
set_option maxRecDepth 100000
namespace Go.Proofs.Ytadffbgbndibpaa
open Go Go.RowKit
mutual
theorem leftT_sz (left:Int):∀ t:Ty,0≤leftT left t→(szT t:Int)=left-leftT left t
 |.mk _ _ _ args _ _,h=>by
  rw [leftT] at h ⊢
  have:=leftTs_sz (left-1) args h
  rw [szT]
  omega
theorem leftTs_sz (left:Int):∀ l:List Ty,0≤leftTs left l→(szTs l:Int)=left-leftTs left l
 |[],_=>by rw [leftTs,szTs];omega
 |t :: l,h=>by
  rw [leftTs] at h ⊢
  rw [szTs]
  split at h
  ·omega
  ·rename_i hn
   rw [if_neg hn]
   have h1:=leftTs_le (leftT left t) l
   have h2:=leftTs_sz (leftT left t) l h
   have h3:=leftT_sz left t (by omega)
   omega
end
mutual
theorem leftB_sz (left:Int):∀ b:Bk,0≤leftB left b→(szB b:Int)=left-leftB left b
 |.mk _ _ steps _,h=>by
  rw [leftB] at h ⊢
  have:=leftSs_sz (left-1) steps h
  rw [szB]
  omega
theorem leftSs_sz (left:Int):∀ l:List St,0≤leftSs left l→(szSs l:Int)=left-leftSs left l
 |[],_=>by rw [leftSs,szSs];omega
 |s :: l,h=>by
  rw [leftSs] at h ⊢
  rw [szSs]
  split at h
  ·omega
  ·rename_i hn
   rw [if_neg hn]
   have h1:=leftSs_le (leftS left s) l
   have h2:=leftSs_sz (leftS left s) l h
   have h3:=leftS_sz left s (by omega)
   omega
theorem leftS_sz (left:Int):∀ s:St,0≤leftS left s→(szS s:Int)=left-leftS left s
 |.mk _ _ ty _ _ _ types _ _ _ _ _ blocks,h=>by
  rw [leftS] at h ⊢
  rw [szS]
  have h1:=leftBs_le (leftTs (leftT (left-1) ty) types) blocks
  have h2:=leftTs_le (leftT (left-1) ty) types
  have h3:=leftBs_sz (leftTs (leftT (left-1) ty) types) blocks h
  have h4:=leftTs_sz (leftT (left-1) ty) types (by omega)
  have h5:=leftT_sz (left-1) ty (by omega)
  omega
theorem leftBs_sz (left:Int):∀ l:List Bk,0≤leftBs left l→(szBs l:Int)=left-leftBs left l
 |[],_=>by rw [leftBs,szBs];omega
 |b :: l,h=>by
  rw [leftBs] at h ⊢
  rw [szBs]
  split at h
  ·omega
  ·rename_i hn
   rw [if_neg hn]
   have h1:=leftBs_le (leftB left b) l
   have h2:=leftBs_sz (leftB left b) l h
   have h3:=leftB_sz left b (by omega)
   omega
end
section
variable (left:Int)
include left
theorem leftCs_sz (l:List Con) (h:0≤leftCs left l):(szCs l:Int)=left-leftCs left l:=by
 induction l generalizing left with
 |nil=>rw [leftCs,szCs];omega
 |cons c l ih =>
  rw [leftCs] at h ⊢
  rw [szCs]
  split at h
  ·omega
  ·rename_i hn
   rw [if_neg hn]
   have h1:=leftCs_le (leftTs left c.fields) l
   have h2:=ih (leftTs left c.fields) h
   have h3:=leftTs_sz left c.fields (by omega)
   omega
theorem leftDs_le (l:List Dat):leftDs left l≤left:=by
 induction l generalizing left with
 |nil=>rw [leftDs];omega
 |cons c l ih =>
  rw [leftDs]
  split
  ·omega
  ·have h1:=leftCs_le left c.cons
   have h2:=ih (leftCs left c.cons)
   omega
theorem leftDs_sz (l:List Dat) (h:0≤leftDs left l):(szDs l:Int)=left-leftDs left l:=by
 induction l generalizing left with
 |nil=>rw [leftDs,szDs];omega
 |cons c l ih =>
  rw [leftDs] at h ⊢
  rw [szDs]
  split at h
  ·omega
  ·rename_i hn
   rw [if_neg hn]
   have h1:=leftDs_le (leftCs left c.cons) l
   have h2:=ih (leftCs left c.cons) h
   have h3:=leftCs_sz left c.cons (by omega)
   omega
theorem leftF_sz (f:Fu) (h:0≤leftF left f):(szF f:Int)=left-leftF left f:=by
 unfold leftF at h ⊢
 split at h
 ·omega
 ·rename_i hn
  rw [if_neg hn]
  have h1:=leftB_sz (leftF1 left f) f.body h
  unfold leftF1 at hn h1 ⊢
  have h2:=leftT_le (leftTs (left-1) f.params) f.result
  have h3:=leftT_sz (leftTs (left-1) f.params) f.result (by omega)
  have h4:=leftTs_sz (left-1) f.params (by omega)
  unfold szF
  omega
theorem leftFs_le (l:List Fu):leftFs left l≤left:=by
 induction l generalizing left with
 |nil=>rw [leftFs];omega
 |cons c l ih =>
  rw [leftFs]
  split
  ·omega
  ·have h1:=leftF_le left c
   have h2:=ih (leftF left c)
   omega
theorem leftFs_sz (l:List Fu) (h:0≤leftFs left l):(szFs l:Int)=left-leftFs left l:=by
 induction l generalizing left with
 |nil=>rw [leftFs,szFs];omega
 |cons c l ih =>
  rw [leftFs] at h ⊢
  rw [szFs]
  split at h
  ·omega
  ·rename_i hn
   rw [if_neg hn]
   have h1:=leftFs_le (leftF left c) l
   have h2:=ih (leftF left c) h
   have h3:=leftF_sz left c (by omega)
   omega
end
theorem within_sz {p:Pg} {most:Nat} (h:withinP p most=true):szDs p.datas+szFs p.funs≤most:=by
 unfold withinP at h
 simp only [decide_eq_true_eq] at h
 have h1:=leftFs_le (leftDs most p.datas) p.funs
 have h2:=leftFs_sz (leftDs most p.datas) p.funs h
 have h3:=leftDs_sz most p.datas (by omega)
 omega
end Go.Proofs.Ytadffbgbndibpaa
