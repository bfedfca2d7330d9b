/- Heap, FlA, FlB: lemmas and walks of the claim. -/
import Derived.WalkKit
import Derived.KernelRfl
import Derived.Deep.AppendLies
import Derived.Laws.IdiomCopy
import Derived.Deep.Draws
set_option linter.unusedVariables false
set_option linter.unusedSimpArgs false
set_option maxHeartbeats 16000000
set_option maxRecDepth 100000
namespace Go.Proofs.Ytadffbgbndibpaa
section
open Go Go.RowKit
structure Hd (p:Prop):Prop where mk :: (out:p)
def Blk (w:World) (b:Nat) (T:TypeId) (L:List Value):Prop:=w.heap[b]? =some (.cells L.toArray T (0,0))
section
variable {w:World} {b:Nat} {T:TypeId} {L:List Value} (h:Blk w b T L)
include w b T L h
theorem Blk.lt:b<w.heap.size:=lt_of_block h
theorem Blk.at (i:Nat):w.cell? ⟨b,i,none⟩=L[i]? :=by
 unfold Blk at h
 simp [World.cell?,h]
theorem Blk.cell {i:Nat} {v:Value} (hi:L[i]? =some v):w.cell? ⟨b,i,none⟩=some v:=by rw [h.at,hi]
theorem Blk.free (i:Nat):w.frozen? ⟨b,i,none⟩=false:=by
 unfold Blk at h
 simp [World.frozen?,h]
end
section
variable {w:World} {b:Nat}
include w b
theorem Blk.eq {T T':TypeId} {L L':List Value} (h:Blk w b T L) (h':Blk w b T' L'):T=T'∧L=L':=by
 unfold Blk at h h'
 rw [h] at h'
 simp only [Option.some.injEq,Obj.cells.injEq] at h'
 obtain ⟨h1,h2,_⟩:=h'
 exact ⟨h2,by simpa using congrArg Array.toList h1⟩
section
variable {T:TypeId} {L:List Value} (h:Blk w b T L)
include T L h
theorem Blk.shape:w.shape? b=some (T,L.length):=by
 unfold Blk at h
 simp [World.shape?,h]
theorem Blk.setCell (i:Nat) (v:Value):Blk (w.setCell ⟨b,i,none⟩ v) b T (L.set i v):=by
 unfold Blk at h ⊢
 simp only [World.setCell]
 rw [Array.getElem?_modify,if_pos rfl,h]
 simp
theorem Blk.setCell_ne {a:Addr} (v:Value) (hne:b≠a.block):Blk (w.setCell a v) b T L:=by
 unfold Blk at h ⊢
 rw [Below.heap_setCell w a v b hne,h]
theorem Blk.alloc (o:Obj):Blk (w.alloc o) b T L:=by
 have hb:=h.lt
 unfold Blk at h ⊢
 rw [Below.heap_alloc w o b hb,h]
end
end
theorem Blk.new (w:World) (L:List Value) (T:TypeId):Blk (w.alloc (.cells L.toArray T)) w.heap.size T L:=by
 unfold Blk
 exact heap_alloc_new w _
theorem Blk.new' (w:World) (A:Array Value) (T:TypeId):Blk (w.alloc (.cells A T)) w.heap.size T A.toList:=by
 unfold Blk
 exact heap_alloc_new w _
section
variable {w:World} {b:Nat} {T:TypeId} {L:List Value} (h:Blk w b T L)
include w b T L h
theorem Blk.drew:Blk w.drew b T L:=h
theorem Blk.drewN (n:Nat):Blk (w.drewN n) b T L:=h
end
theorem Blk.of_heap {w w':World} {b:Nat} {T:TypeId} {L:List Value} (h:Blk w b T L) (he:w'.heap[b]? =w.heap[b]?):Blk w' b T L:=by
 unfold Blk at h ⊢
 rw [he,h]
abbrev Tag:=Nat × Nat
abbrev Ghost:=Nat→Option Tag
def Ghost.put (ρ:Ghost) (b:Nat) (t:Tag):Ghost:=fun k=>if k=b then some t else ρ k
theorem Ghost.put_same (ρ:Ghost) (b:Nat) (t:Tag):ρ.put b t b=some t:=by simp [Ghost.put]
theorem Ghost.put_ne (ρ:Ghost) {b k:Nat} (t:Tag) (h:k≠b):ρ.put b t k=ρ k:=by simp [Ghost.put,h]
def Fresh (w:World) (ρ:Ghost):Prop:=∀ k,w.heap.size≤k→ρ k=none
structure Step (T:Tag→Prop) (w:World) (ρ:Ghost) (w':World) (ρ':Ghost):Prop where
 os:w'.os=w.os
 tape:w'.tape=w.tape
 output:w'.output=w.output
 size:w.heap.size≤w'.heap.size
 ghost:∀ k,k<w.heap.size→ρ' k=ρ k
 block:∀ k,k<w.heap.size→(∀ t,ρ k=some t→¬T t)→w'.heap[k]? =w.heap[k]?
 fresh:Fresh w ρ→Fresh w' ρ'
theorem Step.refl (T:Tag→Prop) (w:World) (ρ:Ghost):Step T w ρ w ρ:=⟨rfl,rfl,rfl,Nat.le_refl _,fun _ _=>rfl,fun _ _ _=>rfl,id⟩
theorem Step.trans {T:Tag→Prop} {w w1 w2:World} {ρ ρ1 ρ2:Ghost} (h:Step T w ρ w1 ρ1) (k:Step T w1 ρ1 w2 ρ2):Step T w ρ w2 ρ2 where
 os:=k.os.trans h.os
 tape:=k.tape.trans h.tape
 output:=k.output.trans h.output
 size:=Nat.le_trans h.size k.size
 ghost:=fun i hi=>(k.ghost i (Nat.lt_of_lt_of_le hi h.size)).trans (h.ghost i hi)
 block:=fun i hi hn=>(k.block i (Nat.lt_of_lt_of_le hi h.size) (fun t ht=>hn t (by rw [←h.ghost i hi];exact ht))).trans (h.block i hi hn)
 fresh:=fun f=>k.fresh (h.fresh f)
theorem Step.mono {T T':Tag→Prop} {w w1:World} {ρ ρ1:Ghost} (h:Step T w ρ w1 ρ1) (hT:∀ t,T t→T' t):Step T' w ρ w1 ρ1 :=
 ⟨h.os,h.tape,h.output,h.size,h.ghost,fun k hk hn=>h.block k hk (fun t ht hTt=>hn t ht (hT t hTt)),h.fresh⟩
section
variable {T:Tag→Prop} {w w1:World} {ρ ρ1:Ghost} (h:Step T w ρ w1 ρ1)
include T w w1 ρ ρ1 h
theorem Step.setCell {a:Addr} {t:Tag} (ht:ρ1 a.block=some t) (hT:T t) (v:Value):Step T w ρ (w1.setCell a v) ρ1 where
 os:=h.os
 tape:=h.tape
 output:=h.output
 size:=by simpa using h.size
 ghost:=h.ghost
 block:=fun k hk hn=>by
  have hne:k≠a.block:=by
   rintro rfl
   exact hn t (by rw [←h.ghost _ hk];exact ht) hT
  rw [Below.heap_setCell w1 a v k hne]
  exact h.block k hk hn
 fresh:=fun f=>by
  have:=h.fresh f
  intro k hk
  exact this k (by simpa using hk)
theorem Step.setCell_new {a:Addr} (ht:w.heap.size≤a.block) (v:Value):Step T w ρ (w1.setCell a v) ρ1 where
 os:=h.os
 tape:=h.tape
 output:=h.output
 size:=by simpa using h.size
 ghost:=h.ghost
 block:=fun k hk hn=>by
  have hne:k≠a.block:=by omega
  rw [Below.heap_setCell w1 a v k hne]
  exact h.block k hk hn
 fresh:=fun f=>by
  have:=h.fresh f
  intro k hk
  exact this k (by simpa using hk)
theorem Step.alloc (o:Obj):Step T w ρ (w1.alloc o) ρ1 where
 os:=h.os
 tape:=h.tape
 output:=h.output
 size:=by have:=h.size;simp;omega
 ghost:=h.ghost
 block:=fun k hk hn=>by
  rw [Below.heap_alloc w1 o k (Nat.lt_of_lt_of_le hk h.size)]
  exact h.block k hk hn
 fresh:=fun f=>by
  have:=h.fresh f
  intro k hk
  exact this k (by simp at hk;omega)
theorem Step.alloc_tag (o:Obj) (t:Tag):Step T w ρ (w1.alloc o) (ρ1.put w1.heap.size t) where
 os:=h.os
 tape:=h.tape
 output:=h.output
 size:=by have:=h.size;simp;omega
 ghost:=fun k hk=>by
  have:=h.size
  rw [Ghost.put_ne _ _ (by omega)]
  exact h.ghost k hk
 block:=fun k hk hn=>by
  rw [Below.heap_alloc w1 o k (Nat.lt_of_lt_of_le hk h.size)]
  exact h.block k hk hn
 fresh:=fun f=>by
  have:=h.fresh f
  intro k hk
  simp at hk
  rw [Ghost.put_ne _ _ (by omega)]
  exact this k (by omega)
theorem Step.drew:Step T w ρ w1.drew ρ1:=⟨h.os,h.tape,h.output,h.size,h.ghost,h.block,h.fresh⟩
theorem Step.drewN (n:Nat):Step T w ρ (w1.drewN n) ρ1:=⟨h.os,h.tape,h.output,h.size,h.ghost,h.block,h.fresh⟩
theorem Step.blk {b:Nat} {ty:TypeId} {L:List Value} (hb:Blk w b ty L) (hn:∀ t,ρ b=some t→¬T t):Blk w1 b ty L:=hb.of_heap (h.block b hb.lt hn)
theorem Step.blk' {b:Nat} {ty:TypeId} {L:List Value} {t:Tag} (hb:Blk w b ty L) (ht:ρ b=some t) (hn:¬T t):Blk w1 b ty L:=h.blk hb (fun t' h'=>by rw [ht] at h';cases h';exact hn)
theorem Step.tag {b:Nat} {t:Option Tag} (hb:b<w.heap.size) (ht:ρ b=t):ρ1 b=t:=(h.ghost b hb).trans ht
theorem Step.below (h0:∀ k,k<w.heap.size→ρ k=none):Below w.heap.size w w1 :=
 ⟨h.os,h.tape,h.output,h.size,fun k hk=>h.block k hk (fun t ht=>by rw [h0 k hk] at ht;cases ht)⟩
end
theorem Step.of_below {T:Tag→Prop} {w w1 w2:World} {ρ ρ1:Ghost} (h:Step T w ρ w1 ρ1) (hb:Below w1.heap.size w1 w2):Step T w ρ w2 ρ1 where
 os:=hb.os.trans h.os
 tape:=hb.tape.trans h.tape
 output:=hb.output.trans h.output
 size:=Nat.le_trans h.size hb.size
 ghost:=h.ghost
 block:=fun k hk hn=>(hb.block k (Nat.lt_of_lt_of_le hk h.size)).trans (h.block k hk hn)
 fresh:=fun f=>by
  have:=h.fresh f
  intro k hk
  exact this k (Nat.le_trans hb.size hk)
def OwnSl (w:World) (ρ:Ghost) (t:Tag) (e:TypeId) (sz:Nat) (v:Value) (n:Nat) (xs:List Value):Prop :=
 xs.length=n*sz∧((v= .slice none 0 0∧n=0) ∨
  ∃ g cap L,v= .slice (some ⟨g,0,none⟩) n cap∧ρ g=some t∧Blk w g e L∧n≤cap∧cap≤maxLen∧cap*sz≤L.length∧L.take (n*sz)=xs)
theorem OwnSl.nil (w:World) (ρ:Ghost) (t:Tag) (e:TypeId) (sz:Nat):OwnSl w ρ t e sz (.slice none 0 0) 0 []:=⟨by simp, .inl ⟨rfl,rfl⟩⟩
section
variable {w:World} {ρ:Ghost} {t:Tag} {e:TypeId} {sz:Nat} {v:Value} {n:Nat} {xs:List Value} (h:OwnSl w ρ t e sz v n xs)
include w ρ t e sz v n xs h
theorem OwnSl.len:xs.length=n*sz:=h.1
theorem OwnSl.form:∃ A c,v= .slice A n c∧n≤c∧c≤maxLen:=by
 rcases h.2 with ⟨rfl,rfl⟩|⟨g,cap,L,rfl,_,_,h1,h2,_⟩
 ·exact ⟨none,0,rfl,Nat.le_refl _,Nat.zero_le _⟩
 ·exact ⟨_,_,rfl,h1,h2⟩
theorem OwnSl.some (hn:0<n) :
 ∃ g c,v= .slice (some ⟨g,0,none⟩) n c∧ρ g=some t∧n≤c∧c≤maxLen∧(∀ i,i<n*sz→w.cell? ⟨g,i,none⟩=xs[i]?)∧(∀ i,w.frozen? ⟨g,i,none⟩=false)∧g<w.heap.size:=by
 rcases h.2 with ⟨rfl,rfl⟩|⟨g,cap,L,rfl,hr,hb,h1,h2,h3,h4⟩
 ·omega
 ·refine ⟨g,cap,rfl,hr,h1,h2,fun i hi=>?_,hb.free,hb.lt⟩
  rw [hb.at, ←h4,List.getElem?_take]
  simp [hi]
end
theorem OwnSl.step {T:Tag→Prop} {w w1:World} {ρ ρ1:Ghost} {t:Tag} {e:TypeId} {sz:Nat} {v:Value} {n:Nat} {xs:List Value} (h:OwnSl w ρ t e sz v n xs) (hs:Step T w ρ w1 ρ1) (hT:¬T t):OwnSl w1 ρ1 t e sz v n xs:=by
 refine ⟨h.1,?_⟩
 rcases h.2 with h|⟨g,cap,L,h0,hr,hb,h1,h2,h3,h4⟩
 ·exact .inl h
 ·exact .inr ⟨g,cap,L,h0,hs.tag hb.lt hr,hs.blk' hb hr hT,h1,h2,h3,h4⟩
section
variable {w:World} {ρ:Ghost} {t:Tag} {e:TypeId} {sz:Nat}
include w ρ t e sz
theorem OwnSl.set {g n c:Nat} {xs:List Value} (h:OwnSl w ρ t e sz (.slice (.some ⟨g,0,none⟩) n c) n xs) (i:Nat) (u:Value) :
 OwnSl (w.setCell ⟨g,i,none⟩ u) ρ t e sz (.slice (.some ⟨g,0,none⟩) n c) n (xs.set i u):=by
 refine ⟨by simpa using h.1,?_⟩
 rcases h.2 with ⟨h,_⟩|⟨g',cap,L,h0,hr,hb,h1,h2,h3,h4⟩
 ·cases h
 ·injection h0 with ha _ hc
  injection ha with ha
  injection ha with ha
  subst ha;subst hc
  refine .inr ⟨g,c,L.set i u,rfl,hr,hb.setCell i u,h1,h2,by simpa using h3,?_⟩
  rw [List.take_set,h4]
section
variable {v:Value} {n:Nat} {xs:List Value} (h:OwnSl w ρ t e sz v n xs)
include v n xs h
theorem OwnSl.set_ne {a:Addr} (u:Value) (hne:ρ a.block≠Option.some t) :
 OwnSl (w.setCell a u) ρ t e sz v n xs:=by
 refine ⟨h.1,?_⟩
 rcases h.2 with h|⟨g,cap,L,h0,hr,hb,h1,h2,h3,h4⟩
 ·exact .inl h
 ·exact .inr ⟨g,cap,L,h0,hr,hb.setCell_ne u (by rintro rfl;exact hne hr),h1,h2,h3,h4⟩
theorem OwnSl.alloc (o:Obj):OwnSl (w.alloc o) ρ t e sz v n xs:=by
 refine ⟨h.1,?_⟩
 rcases h.2 with h|⟨g,cap,L,h0,hr,hb,h1,h2,h3,h4⟩
 ·exact .inl h
 ·exact .inr ⟨g,cap,L,h0,hr,hb.alloc o,h1,h2,h3,h4⟩
theorem OwnSl.drew:OwnSl w.drew ρ t e sz v n xs:=h
theorem OwnSl.drewN (k:Nat):OwnSl (w.drewN k) ρ t e sz v n xs:=h
end
end
theorem OwnSl.made (w:World) (ρ:Ghost) (t:Tag) (e:TypeId) (sz n:Nat) (xs:List Value) (hl:xs.length=n*sz) (hm:n≤maxLen) :
 OwnSl (w.alloc (.cells xs.toArray e)) (ρ.put w.heap.size t) t e sz (.slice (Option.some ⟨w.heap.size,0,none⟩) n n) n xs :=
 ⟨hl, .inr ⟨_,n,xs,rfl,Ghost.put_same _ _ _,Blk.new w xs e,Nat.le_refl _,hm,by omega,by rw [←hl,List.take_length]⟩⟩
theorem OwnSl.cut {w:World} {ρ:Ghost} {t:Tag} {e:TypeId} {sz:Nat} {A:Option Addr} {n c:Nat} {xs:List Value} (h:OwnSl w ρ t e sz (.slice A n c) n xs) (m c':Nat) (hm:m≤n) (hc:c'≤c) (hmc:m≤c') (hA:A=none→c'=0) :
 OwnSl w ρ t e sz (.slice A m c') m (xs.take (m*sz)):=by
 have hl:m*sz≤n*sz:=Nat.mul_le_mul_right _ hm
 refine ⟨by rw [List.length_take,h.1];omega,?_⟩
 rcases h.2 with ⟨h,h0⟩|⟨g,cap,L,h0,hr,hb,h1,h2,h3,h4⟩
 ·injection h with h1 h2 h3
  subst h1;subst h3
  refine .inl ⟨?_,by omega⟩
  rw [hA rfl,show m=0 by omega]
 ·injection h0 with ha _ hc0
  subst ha;subst hc0
  refine .inr ⟨g,c',L,rfl,hr,hb,hmc,by omega,Nat.le_trans (Nat.mul_le_mul_right _ hc) h3,?_⟩
  rw [←h4,List.take_take,Nat.min_eq_left hl]
section
variable {P:Program} (w:World)
theorem run_append_ownS (t ty e:TypeId) (i:TypeInfo) (z:Value) (size bytes:Nat) (ht:P.underlying t=some (.slice e)) (hi:P.info? e=some i) (hz:i.zero=some z) (hsize:i.size=size) (hby:i.bytes=bytes) (hzs:z.cells.size=size) (hsz:0<size) (ρ:Ghost) (tg:Tag) (v:Value) (n:Nat) (xs:List Value) (hown:OwnSl w ρ tg e size v n xs) (a:Addr) (m c:Nat) (news:List Value) (hl:news.length=m*size) (hnews:∀ j u,news[j]? =some u→w.cell? (a.add j)=some u) (h1:∀ u ∈ news,u.oneCell'=true) (h63:n+m≤maxLen) (hbytes:(n+m)*bytes≤140737488355328) :
 ∃ v' w' ρ',(Builtin.append_ #[t,t] ty #[v, .slice (some a) m c]).run P w= .ok v' w'∧OwnSl w' ρ' tg e size v' (n+m) (xs++news)∧Step (· =tg) w ρ w' ρ':=by
 subst hsize
 subst hby
 have hsmall:n+m≤9223372036854775807:=by simp only [maxLen] at h63;omega
 have hlen:(xs++news).length=(n+m)*i.size:=by rw [List.length_append,hown.1,hl,Nat.add_mul]
 have grown:∀ (old:Nat),old<n+m →
  OwnSl (w.drew.alloc (.cells (xs.toArray++news.toArray++Builtin.zeroCells z.cells (grownCap w (n+m) old e-(n+m))) e)) (ρ.put w.heap.size tg) tg e i.size
   (.slice (some ⟨w.heap.size,0,none⟩) (n+m) (grownCap w (n+m) old e)) (n+m) (xs++news) ∧
  Step (· =tg) w ρ (w.drew.alloc (.cells (xs.toArray++news.toArray++Builtin.zeroCells z.cells (grownCap w (n+m) old e-(n+m))) e)) (ρ.put w.heap.size tg):=by
  intro old ho
  have hge:=grownCap_ge w (n+m) old e
  have hcm:grownCap w (n+m) old e≤maxLen:=grownCap_le_maxLen w (n+m) old e h63
  refine ⟨⟨hlen, .inr ⟨w.heap.size,_,_,rfl,Ghost.put_same _ _ _,Blk.new' w.drew _ e,hge,hcm,?_,?_⟩⟩,((Step.refl _ w ρ).drew.alloc_tag _ tg)⟩
  ·simp only [Array.length_toList,Array.size_append,List.size_toArray,size_zeroCells,hzs,hown.1,hl, ←Nat.add_mul]
   apply Nat.le_of_eq
   congr 1
   omega
  ·simp only [Array.toList_append,List.append_assoc]
   rw [←List.append_assoc, ←hlen]
   exact List.take_left
 rcases hown.2 with ⟨rfl,rfl⟩|⟨g,cap,L,rfl,hr0,hb,hnc,hcm,hcs,htake⟩
 ·have hx:xs=[]:=List.eq_nil_of_length_eq_zero (by simpa using hown.1)
  subst hx
  by_cases hm:m=0
  ·subst hm
   have hn:news=[]:=List.eq_nil_of_length_eq_zero (by simpa using hl)
   subst hn
   refine ⟨.slice none 0 0,w,ρ,?_,OwnSl.nil w ρ tg e i.size,Step.refl _ _ _⟩
   simp [Builtin.append_,run_underlying ht,sizeOf,typeInfo,hi,Builtin.lenOf,Builtin.firstCells,loadCells,loadCellsFrom]
  ·have hr:=run_append_nil (P:=P) w t ty e i z ht hi hz a m c news hl hnews (by omega) (by omega) (by have hb:=hbytes;simp only [Nat.zero_add] at hb;omega)
   have hgr:=grown 0 (by omega)
   simp only [Nat.zero_add,List.nil_append,Array.empty_append] at hgr ⊢
   exact ⟨_,_,_,hr,hgr.1,hgr.2⟩
 ·by_cases hroom:n+m≤cap
  ·have hle:(n+m)*i.size≤cap*i.size:=Nat.mul_le_mul_right _ hroom
   have hfit:n*i.size+news.length≤L.length:=by rw [hl, ←Nat.add_mul];omega
   have hr:=run_append_room (P:=P) w t ty e i ht hi g n cap L.toArray hb a m c news hl hnews h1 hroom (by simpa using hfit)
   refine ⟨_,_,ρ,hr,⟨hlen, .inr ⟨g,cap,_,rfl,hr0,setRow_heap w g L.toArray _ e _ hb,hroom,hcm,?_,?_⟩⟩,?_⟩
   ·simp only [List.length_append,List.length_take,List.length_drop]
    omega
   ·rw [htake, ←hlen]
    exact List.take_left
   ·refine ⟨rfl,rfl,rfl,by simp [World.setRow],fun _ _=>rfl,fun k _ hk=>setRow_other w g k _ (by rintro rfl;exact hk tg hr0 rfl),fun f k hk=>f k (by simpa [World.setRow] using hk)⟩
  ·have holds:∀ j u,xs[j]? =some u→w.cell? ((⟨g,0,none⟩:Addr).add j)=some u:=by
    intro j u hu
    have hadd:(⟨g,0,none⟩:Addr).add j=⟨g,j,none⟩:=by unfold Addr.add;split <;> simp_all
    rw [hadd,hb.at]
    rw [←htake,List.getElem?_take] at hu
    split at hu
    ·exact hu
    ·cases hu
   have hr:=run_append_grow (P:=P) w t ty e i z ht hi hz ⟨g,0,none⟩ n cap xs hown.1 holds a m c news hl hnews (by omega) (by omega) (growslice_fits (by omega) hbytes)
   have hgr:=grown cap (by omega)
   exact ⟨_,_,_,hr,hgr.1,hgr.2⟩
end
theorem wpList_appendS {P:Program} {w:World} {ops:Array Oper} {rest:List Oper} {o:Oper} {a:Act} {Q:Exit→Act→World→Prop} (hgd:o.guard=none) (s x:Operand) (t:TypeId) (ho:o.op= .call { callee:= .builtin .append,args:= #[s,x],argTypes:= #[t,t] }) (e:TypeId) (z:Value) (size bytes:Nat) (ht:P.underlying t=some (.slice e)) (hinfo:(P.info? e).map (fun i=>(i.zero,i.size,i.bytes))=some (some z,size,bytes)) (hzs:z.cells.size=size) (hsz:0<size) (ρ:Ghost) (tg:Tag) (v:Value) (n:Nat) (xs:List Value) (hs:a.eval s=v) (hown:OwnSl w ρ tg e size v n xs) (ad:Addr) (m c:Nat) (news:List Value) (hx:a.eval x= .slice (some ad) m c) (hl:news.length=m*size) (hnews:∀ j u,news[j]? =some u→w.cell? (ad.add j)=some u) (h1:∀ u ∈ news,u.oneCell'=true) (h63:n+m≤maxLen) (hbytes:(n+m)*bytes≤140737488355328) (h:∀ v' w' ρ',OwnSl w' ρ' tg e size v' (n+m) (xs++news)→Step (· =tg) w ρ w' ρ'→wpList P ops Q rest (a.put o.dst v') w'):wpList P ops Q (o :: rest) a w:=by
 obtain ⟨i,hi,hzz⟩:=Option.map_eq_some_iff.1 hinfo
 simp only [Prod.mk.injEq] at hzz
 obtain ⟨hz0,hz1,hz2⟩:=hzz
 obtain ⟨v',w',ρ',hr,h2,h3⟩:=run_append_ownS (P:=P) w t o.type e i z size bytes ht hi hz0 hz1 hz2 hzs hsz ρ tg v n xs hown ad m c news hl hnews h1 h63 hbytes
 refine wpList_plain hgd fun K hK=>?_
 unfold Oper.wp execOp
 simp only [ho,resolve,invoke,builtin,Sem.run_bind,Sem.run_pure,Result.andThen_ok,List.map_toArray,List.map_cons,List.map_nil,hs,hx,hr]
 exact hK _ _ (h v' w' ρ' h2 h3)
section
variable {P:Program} {W:World} {ops:Array Oper} {rest:List Oper} {o:Oper} {a:Act} {Q:Exit→Act→World→Prop} (hgd:o.guard=none) (s x:Operand) (t:TypeId) (ho:o.op= .call { callee:= .builtin .append,args:= #[s,x],argTypes:= #[t,t] }) (e:TypeId) (z:Value) (size bytes:Nat) (ht:P.underlying t=some (.slice e)) (hinfo:(P.info? e).map (fun i=>(i.zero,i.size,i.bytes))=some (some z,size,bytes)) (hzs:z.cells.size=size) (hsz:0<size) (ρ:Ghost) (tg:Tag) (v:Value) (n:Nat) (xs news:List Value) (hs:a.eval s=v) (hown:OwnSl W ρ tg e size v n xs)
include P W ops rest o a Q hgd s x t ho e z size bytes ht hinfo hzs hsz ρ tg v n xs news hs hown
theorem wpList_append_box (m:Nat) (hx:a.eval x= .slice (some ⟨W.heap.size,0,none⟩) m m) (hl:news.length=m*size) (h1:∀ u ∈ news,u.oneCell'=true) (h63:n+m≤maxLen) (hbytes:(n+m)*bytes≤140737488355328) (h:∀ v' w' ρ',OwnSl w' ρ' tg e size v' (n+m) (xs++news)→Step (· =tg) W ρ w' ρ'→wpList P ops Q rest (a.put o.dst v') w'):wpList P ops Q (o :: rest) a (W.alloc (.cells news.toArray e)) :=
 wpList_appendS hgd s x t ho e z size bytes ht hinfo hzs hsz ρ tg v n xs hs (hown.alloc _) ⟨W.heap.size,0,none⟩ m m news hx hl
  (fun j u hu=>by
   have hadd:(⟨W.heap.size,0,none⟩:Addr).add j=⟨W.heap.size,j,none⟩:=by unfold Addr.add;split <;> simp_all
   rw [hadd,(Blk.new W news e).at,hu]) h1 h63 hbytes
  (fun v' w' ρ' ho hs=>h v' w' ρ' ho (((Step.refl _ W ρ).alloc _).trans hs))
theorem wpList_append_boxW (m B:Nat) (hx:a.eval x= .slice (some ⟨B,0,none⟩) m m) (hB:B=W.heap.size) (hl:news.length=m*size) (h1:∀ u ∈ news,u.oneCell'=true) (h63:n+m≤maxLen) (hbytes:(n+m)*bytes≤140737488355328) (h:∀ v' w' ρ',OwnSl w' ρ' tg e size v' (n+m) (xs++news)→Step (· =tg) W ρ w' ρ'→wpList P ops Q rest (a.put o.dst v') w'):wpList P ops Q (o :: rest) a (W.alloc (.cells news.toArray e)):=by
 subst hB
 exact wpList_append_box hgd s x t ho e z size bytes ht hinfo hzs hsz ρ tg v n xs news hs hown m hx hl h1 h63 hbytes h
end
end
section
open Go Go.RowKit
structure Eff where
 regs:List Int
 vars:List Int
inductive Ty where
 |mk (kind n:Int) (name:ByteArray) (args:List Ty) (region:Int) (eff:Eff)
def Ty.kind:Ty→Int| .mk k .. =>k
def Ty.n:Ty→Int| .mk _ n .. =>n
def Ty.name:Ty→ByteArray| .mk _ _ s .. =>s
def Ty.args:Ty→List Ty| .mk _ _ _ a .. =>a
def Ty.region:Ty→Int| .mk _ _ _ _ r _=>r
def Ty.eff:Ty→Eff| .mk _ _ _ _ _ e=>e
structure Con where
 name:ByteArray
 fields:List Ty
structure Dat where
 name:ByteArray
 vars:List ByteArray
 cons:List Con
mutual
inductive Bk where
 |mk (code:Int) (bind:List Int) (steps:List St) (value:Int)
inductive St where
 |mk (op out:Int) (ty:Ty) (args:List Int) (int code:Int) (types:List Ty) (effs:List Eff) (regs modes:List Int) (region:Int) (keep:List Int) (blocks:List Bk)
end
def Bk.code:Bk→Int| .mk c _ _ _=>c
def Bk.bind:Bk→List Int| .mk _ b _ _=>b
def Bk.steps:Bk→List St| .mk _ _ s _=>s
def Bk.value:Bk→Int| .mk _ _ _ v=>v
def St.op:St→Int| .mk x _ _ _ _ _ _ _ _ _ _ _ _=>x
def St.out:St→Int| .mk _ x _ _ _ _ _ _ _ _ _ _ _=>x
def St.ty:St→Ty| .mk _ _ x _ _ _ _ _ _ _ _ _ _=>x
def St.args:St→List Int| .mk _ _ _ x _ _ _ _ _ _ _ _ _=>x
def St.int:St→Int| .mk _ _ _ _ x _ _ _ _ _ _ _ _=>x
def St.code:St→Int| .mk _ _ _ _ _ x _ _ _ _ _ _ _=>x
def St.types:St→List Ty| .mk _ _ _ _ _ _ x _ _ _ _ _ _=>x
def St.effs:St→List Eff| .mk _ _ _ _ _ _ _ x _ _ _ _ _=>x
def St.regs:St→List Int| .mk _ _ _ _ _ _ _ _ x _ _ _ _=>x
def St.modes:St→List Int| .mk _ _ _ _ _ _ _ _ _ x _ _ _=>x
def St.region:St→Int| .mk _ _ _ _ _ _ _ _ _ _ x _ _=>x
def St.keep:St→List Int| .mk _ _ _ _ _ _ _ _ _ _ _ x _=>x
def St.blocks:St→List Bk| .mk _ _ _ _ _ _ _ _ _ _ _ _ x=>x
structure Fu where
 name:ByteArray
 unit:Int
 types:Int
 regions:Int
 effects:Int
 touch:Eff
 params:List Ty
 result:Ty
 body:Bk
structure Pg where
 datas:List Dat
 exns:List ByteArray
 funs:List Fu
 main:Int
def I64 (x:Int):Prop:= -9223372036854775808≤x∧x≤9223372036854775807
structure SlR {α:Type} (w:World) (ρ:Ghost) (sz byt:Nat) (R:α→List Value→Prop) (v:Value) (l:List α):Prop where
 out:∃ (A:Option Addr) (c:Nat),v= .slice A l.length c∧l.length≤c∧c≤maxLen∧l.length*byt≤140737488355328 ∧
  ∀ i x,l[i]? =some x→∃ b o cs,A=some ⟨b,o,none⟩∧ρ b=none∧b<w.heap.size∧cs.length=sz∧R x cs∧∀ j u,cs[j]? =some u→w.cell? ⟨b,o+i*sz+j,none⟩=some u
theorem SlR.form {α:Type} {w:World} {ρ:Ghost} {sz byt:Nat} {R:α→List Value→Prop} {v:Value} {l:List α} (h:SlR w ρ sz byt R v l):∃ A c,v= .slice A l.length c∧l.length≤c∧c≤maxLen:=by
 obtain ⟨A,c,h1,h2,h3,_⟩:=h.out
 exact ⟨A,c,h1,h2,h3⟩
theorem SlR.nil {α:Type} (w:World) (ρ:Ghost) (sz byt:Nat) (R:α→List Value→Prop):SlR w ρ sz byt R (.slice none 0 0) [] :=
 ⟨none,0,rfl,by simp,by simp,by simp,fun i x h=>by simp at h⟩
theorem SlR.imp {α:Type} {w:World} {ρ:Ghost} {sz byt:Nat} {R R':α→List Value→Prop} {v:Value} {l:List α} (h:SlR w ρ sz byt R v l) (hR:∀ x cs,x ∈ l→R x cs→R' x cs):SlR w ρ sz byt R' v l:=by
 obtain ⟨A,c,h1,h2,h3,h4,h5⟩:=h.out
 refine ⟨A,c,h1,h2,h3,h4,fun i x hi=>?_⟩
 obtain ⟨b,o,cs,e1,e2,e3,e4,e5,e6⟩:=h5 i x hi
 exact ⟨b,o,cs,e1,e2,e3,e4,hR x cs (List.mem_of_getElem? hi) e5,e6⟩
theorem Step.cell {T:Tag→Prop} {w w':World} {ρ ρ':Ghost} (hs:Step T w ρ w' ρ') {a:Addr} {v:Value} (hb:a.block<w.heap.size) (hr:ρ a.block=none) (h:w.cell? a=some v):w'.cell? a=some v :=
 (World.cell?_of_block (hs.block a.block hb (fun t ht=>by rw [hr] at ht;cases ht))).trans h
theorem SlR.step {α:Type} {T:Tag→Prop} {w w':World} {ρ ρ':Ghost} {sz byt:Nat} {R R':α→List Value→Prop} {v:Value} {l:List α} (h:SlR w ρ sz byt R v l) (hs:Step T w ρ w' ρ') (hR:∀ x cs,x ∈ l→R x cs→R' x cs):SlR w' ρ' sz byt R' v l:=by
 obtain ⟨A,c,h1,h2,h3,h4,h5⟩:=h.out
 refine ⟨A,c,h1,h2,h3,h4,fun i x hi=>?_⟩
 obtain ⟨b,o,cs,e1,e2,e3,e4,e5,e6⟩:=h5 i x hi
 exact ⟨b,o,cs,e1,hs.tag e3 e2,Nat.lt_of_lt_of_le e3 hs.size,e4,hR x cs (List.mem_of_getElem? hi) e5,fun j u hj=>hs.cell (a:=⟨b,_,none⟩) e3 e2 (e6 j u hj)⟩
section
variable {α:Type} {w:World} {ρ:Ghost} {sz byt:Nat} {R:α→List Value→Prop} {A:Option Addr} {n c:Nat} {l:List α} (h:SlR w ρ sz byt R (.slice A n c) l)
include α w ρ sz byt R A n c l h
theorem SlR.get {i:Nat} {x:α} (hi:l[i]? =some x) :
 ∃ b o cs,A=some ⟨b,o,none⟩∧cs.length=sz∧R x cs∧∀ j u,cs[j]? =some u→w.cell? ⟨b,o+i*sz+j,none⟩=some u:=by
 obtain ⟨A',c',h1,h2,h3,h4,h5⟩:=h.out
 cases h1
 obtain ⟨b,o,cs,e1,e2,e3,e4,e5,e6⟩:=h5 i x hi
 exact ⟨b,o,cs,e1,e4,e5,e6⟩
theorem SlR.sub (lo hi m:Nat) (h1:lo≤hi) (h2:hi≤l.length) (h3:hi≤m) (h4:m≤c) :
 SlR w ρ sz byt R (.slice (if m=lo then A else A.map (·.add (lo*sz))) (hi-lo) (m-lo)) ((l.take hi).drop lo):=by
 obtain ⟨A',c',e1,e2,e3,e4,e5⟩:=h.out
 cases e1
 have hlen:((l.take hi).drop lo).length=hi-lo:=by simp;omega
 refine ⟨_,_,by rw [hlen],by omega,by omega,?_,?_⟩
 ·rw [hlen]
  exact Nat.le_trans (Nat.mul_le_mul_right _ (by omega)) e4
 ·intro i x hi'
  have hil:i<hi-lo:=by
   have:=(List.getElem?_eq_some_iff.1 hi').1
   omega
  rw [List.getElem?_drop,List.getElem?_take,if_pos (by omega)] at hi'
  obtain ⟨b,o,cs,f1,f2,f3,f4,f5,f6⟩:=e5 _ x hi'
  have hadd:(⟨b,o,none⟩:Addr).add (lo*sz)=⟨b,o+lo*sz,none⟩:=by unfold Addr.add;split <;> simp_all
  refine ⟨b,o+lo*sz,cs,?_,f2,f3,f4,f5,fun j u hj=>?_⟩
  ·rw [if_neg (by omega),f1,Option.map_some,hadd]
  ·have:=f6 j u hj
   rw [Nat.add_mul] at this
   rw [show o+lo*sz+i*sz+j=o+(lo*sz+i*sz)+j by omega]
   exact this
end
def IntR (x:Int) (cs:List Value):Prop:=cs=[.int .i64 x]∧I64 x
def StrR (s:ByteArray) (cs:List Value):Prop:=cs=[.string s]∧s.size≤maxLen
def EffR (w:World) (ρ:Ghost) (e:Eff) (cs:List Value):Prop:=∃ v1 v2,cs=[v1,v2]∧SlR w ρ 1 134217728 IntR v1 e.regs∧SlR w ρ 1 134217728 IntR v2 e.vars
def TyR (w:World) (ρ:Ghost):Nat→Ty→List Value→Prop
 |0,_,_=>False
 |n+1,t,cs=>∃ va v1 v2,cs=[.int .i64 t.kind, .int .i64 t.n, .string t.name,va, .int .i64 t.region,v1,v2]∧I64 t.kind∧I64 t.n∧I64 t.region∧t.name.size≤maxLen ∧
  SlR w ρ 7 112 (TyR w ρ n) va t.args∧SlR w ρ 1 134217728 IntR v1 t.eff.regs∧SlR w ρ 1 134217728 IntR v2 t.eff.vars
def TysR (w:World) (ρ:Ghost) (n:Nat) (v:Value) (l:List Ty):Prop:=SlR w ρ 7 112 (TyR w ρ n) v l
def IntsR (w:World) (ρ:Ghost) (v:Value) (l:List Int):Prop:=SlR w ρ 1 134217728 IntR v l
def StrsR (w:World) (ρ:Ghost) (v:Value) (l:List ByteArray):Prop:=SlR w ρ 1 16 StrR v l
def StR (w:World) (ρ:Ghost) (n:Nat) (B:Bk→List Value→Prop) (s:St) (cs:List Value):Prop :=
 ∃ ct va vt ve vr vm vk vb,cs=[.int .i64 s.op, .int .i64 s.out]++ct++[va, .int .i64 s.int, .int .i64 s.code,vt,ve,vr,vm, .int .i64 s.region,vk,vb] ∧
  I64 s.op∧I64 s.out∧I64 s.int∧I64 s.code∧I64 s.region∧TyR w ρ n s.ty ct∧IntsR w ρ va s.args∧TysR w ρ n vt s.types∧SlR w ρ 2 48 (EffR w ρ) ve s.effs∧IntsR w ρ vr s.regs∧IntsR w ρ vm s.modes∧IntsR w ρ vk s.keep ∧
  SlR w ρ 4 64 B vb s.blocks
def BkR (w:World) (ρ:Ghost):Nat→Bk→List Value→Prop
 |0,_,_=>False
 |n+1,b,cs=>∃ vb vs,cs=[.int .i64 b.code,vb,vs, .int .i64 b.value]∧I64 b.code∧I64 b.value∧IntsR w ρ vb b.bind∧SlR w ρ 19 320 (StR w ρ n (BkR w ρ n)) vs b.steps
theorem EffR.step {T:Tag→Prop} {w w':World} {ρ ρ':Ghost} {e:Eff} {cs:List Value} (h:EffR w ρ e cs) (hs:Step T w ρ w' ρ'):EffR w' ρ' e cs:=by
 obtain ⟨v1,v2,h1,h2,h3⟩:=h
 exact ⟨v1,v2,h1,h2.step hs (fun _ _ _ h=>h),h3.step hs (fun _ _ _ h=>h)⟩
theorem TyR.step {T:Tag→Prop} {w w':World} {ρ ρ':Ghost} (hs:Step T w ρ w' ρ'):∀ (n:Nat) {t:Ty} {cs:List Value},TyR w ρ n t cs→TyR w' ρ' n t cs
 |0,_,_,h=>h
 |n+1,t,cs,h=>by
  obtain ⟨va,v1,v2,h0,h1,h2,h3,h4,h5,h6,h7⟩:=h
  exact ⟨va,v1,v2,h0,h1,h2,h3,h4,h5.step hs (fun _ _ _ h=>TyR.step hs n h),h6.step hs (fun _ _ _ h=>h),h7.step hs (fun _ _ _ h=>h)⟩
theorem TyR.up {w:World} {ρ:Ghost}:∀ (n:Nat) {t:Ty} {cs:List Value},TyR w ρ n t cs→TyR w ρ (n+1) t cs
 |0,_,_,h=>h.elim
 |n+1,t,cs,h=>by
  obtain ⟨va,v1,v2,h0,h1,h2,h3,h4,h5,h6,h7⟩:=h
  exact ⟨va,v1,v2,h0,h1,h2,h3,h4,h5.imp (fun _ _ _ h=>TyR.up n h),h6,h7⟩
theorem TyR.mono {w:World} {ρ:Ghost} {n m:Nat} (hm:n≤m) {t:Ty} {cs:List Value} (h:TyR w ρ n t cs):TyR w ρ m t cs:=by
 induction hm with
 |refl=>exact h
 |step _ ih=>exact TyR.up _ ih
theorem TysR.step {T:Tag→Prop} {w w':World} {ρ ρ':Ghost} {n:Nat} {v:Value} {l:List Ty} (h:TysR w ρ n v l) (hs:Step T w ρ w' ρ'):TysR w' ρ' n v l:=SlR.step h hs (fun _ _ _ h=>TyR.step hs n h)
theorem TysR.mono {w:World} {ρ:Ghost} {n m:Nat} (hm:n≤m) {v:Value} {l:List Ty} (h:TysR w ρ n v l):TysR w ρ m v l:=SlR.imp h (fun _ _ _ h=>h.mono hm)
section
variable {T:Tag→Prop} {w w':World} {ρ ρ':Ghost}
include T w w' ρ ρ'
theorem IntsR.step {v:Value} {l:List Int} (h:IntsR w ρ v l) (hs:Step T w ρ w' ρ'):IntsR w' ρ' v l:=SlR.step h hs (fun _ _ _ h=>h)
theorem StrsR.step {v:Value} {l:List ByteArray} (h:StrsR w ρ v l) (hs:Step T w ρ w' ρ'):StrsR w' ρ' v l:=SlR.step h hs (fun _ _ _ h=>h)
theorem StR.step {n:Nat} {B B':Bk→List Value→Prop} {s:St} {cs:List Value} (h:StR w ρ n B s cs) (hs:Step T w ρ w' ρ') (hB:∀ b cs,b ∈ s.blocks→B b cs→B' b cs):StR w' ρ' n B' s cs:=by
 obtain ⟨ct,va,vt,ve,vr,vm,vk,vb,h0,h1,h2,h3,h4,h5,h6,h7,h8,h9,h10,h11,h12,h13⟩:=h
 exact ⟨ct,va,vt,ve,vr,vm,vk,vb,h0,h1,h2,h3,h4,h5,TyR.step hs n h6,h7.step hs,h8.step hs,h9.step hs (fun _ _ _ h=>h.step hs),h10.step hs,h11.step hs,h12.step hs,h13.step hs hB⟩
end
theorem BkR.step {T:Tag→Prop} {w w':World} {ρ ρ':Ghost} (hs:Step T w ρ w' ρ'):∀ (n:Nat) {b:Bk} {cs:List Value},BkR w ρ n b cs→BkR w' ρ' n b cs
 |0,_,_,h=>h
 |n+1,b,cs,h=>by
  obtain ⟨vb,vs,h0,h1,h2,h3,h4⟩:=h
  exact ⟨vb,vs,h0,h1,h2,h3.step hs,h4.step hs (fun _ _ _ h=>StR.step h hs (fun _ _ _ h=>BkR.step hs n h))⟩
def ConR (w:World) (ρ:Ghost) (n:Nat) (c:Con) (cs:List Value):Prop:=∃ v,cs=[.string c.name,v]∧c.name.size≤maxLen∧TysR w ρ n v c.fields
def DatR (w:World) (ρ:Ghost) (n:Nat) (d:Dat) (cs:List Value):Prop:=∃ v1 v2,cs=[.string d.name,v1,v2]∧d.name.size≤maxLen∧StrsR w ρ v1 d.vars∧SlR w ρ 2 40 (ConR w ρ n) v2 d.cons
def FuR (w:World) (ρ:Ghost) (n:Nat) (f:Fu) (cs:List Value):Prop :=
 ∃ ce vp cr cb,cs=[.string f.name, .int .i64 f.unit, .int .i64 f.types, .int .i64 f.regions, .int .i64 f.effects]++ce++[vp]++cr++cb∧f.name.size≤maxLen∧I64 f.unit∧I64 f.types∧I64 f.regions∧I64 f.effects ∧
  EffR w ρ f.touch ce∧TysR w ρ n vp f.params∧TyR w ρ n f.result cr∧BkR w ρ n f.body cb
def PgR (w:World) (ρ:Ghost) (n:Nat) (p:Pg) (cs:List Value):Prop :=
 ∃ v1 v2 v3,cs=[v1,v2,v3, .int .i64 p.main]∧I64 p.main∧SlR w ρ 3 64 (DatR w ρ n) v1 p.datas∧StrsR w ρ v2 p.exns∧SlR w ρ 19 296 (FuR w ρ n) v3 p.funs
section
variable {T:Tag→Prop} {w w':World} {ρ ρ':Ghost} {n:Nat}
include T w w' ρ ρ' n
theorem ConR.step {c:Con} {cs:List Value} (h:ConR w ρ n c cs) (hs:Step T w ρ w' ρ'):ConR w' ρ' n c cs:=by
 obtain ⟨v,h1,h2,h3⟩:=h
 exact ⟨v,h1,h2,h3.step hs⟩
theorem DatR.step {c:Dat} {cs:List Value} (h:DatR w ρ n c cs) (hs:Step T w ρ w' ρ'):DatR w' ρ' n c cs:=by
 obtain ⟨v1,v2,h1,h2,h3,h4⟩:=h
 exact ⟨v1,v2,h1,h2,h3.step hs,h4.step hs (fun _ _ _ h=>h.step hs)⟩
theorem FuR.step {f:Fu} {cs:List Value} (h:FuR w ρ n f cs) (hs:Step T w ρ w' ρ'):FuR w' ρ' n f cs:=by
 obtain ⟨ce,vp,cr,cb,h0,h1,h2,h3,h4,h5,h6,h7,h8,h9⟩:=h
 exact ⟨ce,vp,cr,cb,h0,h1,h2,h3,h4,h5,h6.step hs,h7.step hs,TyR.step hs n h8,BkR.step hs n h9⟩
theorem PgR.step {p:Pg} {cs:List Value} (h:PgR w ρ n p cs) (hs:Step T w ρ w' ρ'):PgR w' ρ' n p cs:=by
 obtain ⟨v1,v2,v3,h0,h1,h2,h3,h4⟩:=h
 exact ⟨v1,v2,v3,h0,h1,h2.step hs (fun _ _ _ h=>h.step hs),h3.step hs,h4.step hs (fun _ _ _ h=>h.step hs)⟩
end
end
section
open Go Go.RowKit
def Eff.empty (e:Eff):Bool:=e.regs.isEmpty && e.vars.isEmpty
structure Mt where
 nodes:Nat
 big:Bool
def Mt.node (m:Mt) (d:Nat):Mt:=⟨m.nodes+1,m.big || decide (16384<m.nodes+1) || decide (64<d)⟩
mutual
def mTy (m:Mt) (d:Nat):Ty→Mt
 |.mk _ _ _ args _ _=>mTys m d args
def mTys (m:Mt) (d:Nat):List Ty→Mt
 |[]=>m
 |t :: l=>if (m.node d).big then m.node d else mTys (mTy (m.node d) (d+1) t) d l
end
mutual
def mBk (m:Mt) (d:Nat):Bk→Mt
 |.mk _ _ steps _=>if (m.node d).big then m.node d else mSts (m.node d) d steps
def mSts (m:Mt) (d:Nat):List St→Mt
 |[]=>m
 |s :: l=>if (m.node 0).big then m.node 0 else mSts (mSt (m.node 0) d s) d l
def mSt (m:Mt) (d:Nat):St→Mt
 |.mk _ _ ty _ _ _ types _ _ _ _ _ blocks=>mBks (mTys (mTys m 1 [ty]) 1 types) (d+1) blocks
def mBks (m:Mt) (d:Nat):List Bk→Mt
 |[]=>m
 |b :: l=>mBks (mBk m d b) d l
end
def mFuns (m:Mt):List Fu→Mt
 |[]=>m
 |f :: l=>if (mBk (mTys (mTys (m.node 0) 1 f.params) 1 [f.result]) 1 f.body).big then mBk (mTys (mTys (m.node 0) 1 f.params) 1 [f.result]) 1 f.body else mFuns (mBk (mTys (mTys (m.node 0) 1 f.params) 1 [f.result]) 1 f.body) l
def mCons (m:Mt):List Con→Mt
 |[]=>m
 |c :: l=>mCons (mTys m 1 c.fields) l
def mDats (m:Mt):List Dat→Mt
 |[]=>m
 |d :: l=>mDats (mCons m d.cons) l
def bigP (p:Pg):Bool:=(mFuns (mDats ⟨0,false⟩ p.datas) p.funs).big
def manyOf (ds:List Dat) (k n:Int) (len:Nat) (vars:Int):Option Nat :=
 if k=0∨k=1∨k=2 then some 0
 else if k=3 then (if n<0∨vars≤n then none else some 0)
 else if k=4 then (if n<0∨(ds.length:Int)≤n then none else some ((ds[n.toNat]?).elim 0 (fun d=>d.vars.length)))
 else if k=5 then some (max 2 len)
 else if k=6 then some 2
 else if k=7∨k=8 then some 1
 else none
mutual
def formed1 (ds:List Dat) (vars:Int):Ty→Bool
 |.mk k n name args region eff =>
  match manyOf ds k n args.length vars with
  |none=>false
  |some many=> !(decide (k≠3) && decide (k≠4) && decide (n≠0)) && decide (args.length=many) && decide (name.size=0) && decide (region=0) && eff.empty && formedL ds vars args
def formedL (ds:List Dat) (vars:Int):List Ty→Bool
 |[]=>true
 |t :: l=>formed1 ds vars t && formedL ds vars l
end
mutual
def same1:Ty→Ty→Bool
 |.mk k n _ args _ _,b=>decide (k=b.kind) && decide (n=b.n) && sameL args b.args
def sameL:List Ty→List Ty→Bool
 |[],[]=>true
 |a :: l,b :: m=>same1 a b && sameL l m
 |_,_=>false
end
def atVar (args:List Ty) (n:Int):Option Ty:=args[n.toNat]?
mutual
def sameAt1 (args:List Ty):Ty→Ty→Bool
 |.mk k n _ as _ _,b=>if k=3 then (match atVar args n with|some t=>same1 t b|none=>false) else decide (k=b.kind) && decide (n=b.n) && sameAtL args as b.args
def sameAtL (args:List Ty):List Ty→List Ty→Bool
 |[],[]=>true
 |a :: l,b :: m=>sameAt1 args a b && sameAtL args l m
 |_,_=>false
end
-- How many nodes are left behind a type; below 0: it has more, or is nested too deep.
mutual
def room0 (left:Int) (d:Nat):Ty→Int
 |.mk _ _ _ args _ _=>if 64<d then -1 else room0L (left-1) (d+1) args
def room0L (left:Int) (d:Nat):List Ty→Int
 |[]=>left
 |t :: l=>if left<0 then -1 else room0L (room0 left d t) d l
end
mutual
def room1 (as:List Ty) (left:Int) (d:Nat):Ty→Int
 |.mk k n _ args _ _=>if k=3∧as≠[] then (match atVar as n with|some t=>room0 left d t|none=> -1) else if 64<d then -1 else room1L as (left-1) (d+1) args
def room1L (as:List Ty) (left:Int) (d:Nat):List Ty→Int
 |[]=>left
 |t :: l=>if left<0 then -1 else room1L as (room1 as left d t) d l
end
mutual
def at1 (as:List Ty):Ty→Ty
 |.mk k n name args region eff=>if k=3 then (match atVar as n with|some t=>t|none=> .mk k n name args region eff) else .mk k n name (atL as args) region eff
def atL (as:List Ty):List Ty→List Ty
 |[]=>[]
 |t :: l=>at1 as t :: atL as l
end
def divName:ByteArray:=⟨#[68,105,118]⟩
def idxName:ByteArray:=⟨#[73,110,100,101,120]⟩
def sizName:ByteArray:=⟨#[83,105,122,101]⟩
def exnsOk (l:List ByteArray):Bool:=decide (3≤l.length) && decide (l[0]? =some divName) && decide (l[1]? =some idxName) && decide (l[2]? =some sizName)
def consOk (ds:List Dat) (vars:Int) (l:List Con):Bool:=l.all fun c=>formedL ds vars c.fields
def datsOk (all:List Dat):Nat→List Dat→Bool
 |_,[]=>true
 |k,d :: l=>decide (d.cons≠[]) && consOk (all.take (k+1)) d.vars.length d.cons && datsOk all (k+1) l
def funOk (p:Pg) (f:Fu):Bool:=decide (0≤f.types) && decide (f.types≤16384) && decide (f.regions=0) && decide (f.effects=0) && f.touch.empty && formedL p.datas f.types f.params && formedL p.datas f.types [f.result]
def mainOk (f:Fu):Bool:=decide (f.types=0) && decide (f.params.length≤4) && decide (f.result.kind=0) && f.params.all fun t=>decide (t.kind=0)
def headsOk (p:Pg):Bool :=
 exnsOk p.exns && decide (0≤p.main) && decide (p.main<p.funs.length) && datsOk p.datas 0 p.datas && p.funs.all (funOk p) && (p.funs[p.main.toNat]?).elim false mainOk
structure CS where
 bound:List (Int × Ty)
 seen:List Int
inductive Rs (α:Type) where
 |ok (a:α)
 |no
 |big
def lookT (b:List (Int × Ty)) (v:Int):Option Ty:=(b.find? fun p=>decide (p.1=v)).map (·.2)
def CS.bind (c:CS) (v:Int) (t:Ty):Option CS:=if (lookT c.bound v).isSome∨v<0∨16384≤v then none else some ⟨(v,t) :: c.bound,c.seen++[v]⟩
def CS.of (c:CS) (v:Int):Option Ty:=if v ∈ c.seen then lookT c.bound v else none
def CS.binds (c:CS):List Int→List Ty→Option CS
 |v :: l,t :: m=>match c.bind v t with|some c'=>c'.binds l m|none=>none
 |_,_=>some c
def CS.cut (c:CS) (h:Nat):CS:={ c with seen:=c.seen.take h }
def emptyName:ByteArray:=⟨#[]⟩
def kindT (k:Int) (args:List Ty):Ty:= .mk k 0 emptyName args 0 ⟨[],[]⟩
def intT:Ty:=kindT 0 []
def boolT:Ty:=kindT 1 []
def unitT:Ty:=kindT 2 []
def plainStep (s:St):Bool :=
 decide (0≤s.op) && decide (s.op≤27) && s.effs.isEmpty && s.regs.isEmpty && s.modes.isEmpty && s.keep.isEmpty && decide (s.region=0) &&
 (decide (s.op=0) || decide (s.op=5) || (decide (s.op=1) && (decide (s.int=0) || decide (s.int=1))) || decide (s.int=0)) &&
 (decide (s.op=3) || decide (s.op=6) || decide (s.op=16) || decide (s.code=0)) && (decide (s.op=6) || s.types.isEmpty) &&
 (decide (s.op=7) || decide (s.op=17) || decide (s.op=26) || decide (s.op=27) || s.blocks.isEmpty)
def asked (s:St) (args:List Ty) (result:Ty) (want:List Ty):Bool:=sameL [s.ty] [result] && sameL args want
def firstT (args:List Ty):Ty:=match args with|[]=>kindT (-1) []|a :: _=>(match a.args with|[]=>kindT (-1) []|t :: _=>t)
def consOf (p:Pg) (n:Int):List Con:=(p.datas[n.toNat]?).elim [] Dat.cons
def calledC (p:Pg) (s:St) (args:List Ty):Bool :=
 decide (0≤s.code) && decide (s.code<p.funs.length) && ((p.funs[s.code.toNat]?).elim false fun f=>decide ((s.types.length:Int)=f.types) && sameAtL s.types f.params args && sameAtL s.types [f.result] [s.ty])
def typedC (p:Pg) (s:St) (args:List Ty):Bool :=
 if s.op=0 then asked s args intT []
 else if s.op=1 then asked s args boolT []
 else if s.op=2 then asked s args unitT []
 else if s.op=3 then decide (s.ty.kind=4) && decide (0≤s.code) && ((consOf p s.ty.n)[s.code.toNat]?).elim false fun c=>sameAtL s.ty.args c.fields args
 else if s.op=4 then decide (s.ty.kind=5) && sameL args s.ty.args
 else if s.op=5 then (match args with|[a]=>decide (a.kind=5) && decide (0≤s.int) && (a.args[s.int.toNat]?).elim false fun t=>sameL [s.ty] [t]|_=>false)
 else if s.op=6 then calledC p s args
 else if s.op=8 then (match args with|[a,b]=>decide (a.kind=6) && sameL a.args [b,s.ty]|_=>false)
 else if s.op=9 then decide (s.ty.kind=7) && sameL args s.ty.args
 else if s.op=10 then asked s args s.ty [kindT 7 [s.ty]]
 else if s.op=11 then (match args with|[_,b]=>asked s args unitT [kindT 7 [b],b]|_=>false)
 else if s.op=12 then decide (s.ty.kind=8) && (match s.ty.args with|t :: _=>asked s args s.ty [intT,t]|[]=>false)
 else if s.op=13 then asked s args s.ty [kindT 8 [s.ty],intT]
 else if s.op=14 then asked s args unitT [kindT 8 [firstT args],intT,firstT args]
 else if s.op=15 then asked s args intT [kindT 8 [firstT args]]
 else if s.op=16 then decide (0≤s.code) && decide (s.code<p.exns.length) && asked s args s.ty [intT]
 else if s.op=18 then asked s args unitT [intT]
 else if s.op=24∨s.op=25 then asked s args boolT [intT,intT]
 else asked s args intT [intT,intT]
def CS.all (c:CS):List Int→Option (List Ty)
 |[]=>some []
 |v :: l=>match c.of v,c.all l with|some t,some m=>some (t :: m)|_,_=>none
def Rs.andThen {α β:Type}:Rs α→(α→Rs β)→Rs β
 |.ok a,f=>f a
 |.no,_=> .no
 |.big,_=> .big
def codeOk (p:Pg) (before:List Bk) (b:Bk):Bool:=(before.all fun o=>decide (o.code≠b.code)) && decide (0≤b.code) && decide (b.code<p.exns.length)
def caseBinds (as:List Ty):List Con→Option (List (List Ty))
 |[]=>some []
 |c :: l=>if c.fields.all (fun f=>decide (0≤room1 as 256 1 f)) then (caseBinds as l).map (atL as c.fields :: ·) else none
def bindsFit:List Bk→List Con→Bool
 |[],[]=>true
 |b :: l,c :: m=>decide (b.bind.length=c.fields.length) && bindsFit l m
 |_,_=>false
mutual
def blockC (p:Pg) (ty:Int) (c:CS) (binds:List Ty) (code:Int):Bk→Rs (CS × Ty)
 |.mk bc bb steps v =>
  if bc≠code∨bb.length≠binds.length then .no
  else match c.binds bb binds with
  |none=> .no
  |some c1=>(stepsC p ty c1 steps).andThen fun c2=>match c2.of v with|some t=> .ok (c2.cut c.seen.length,t)|none=> .no
def stepsC (p:Pg) (ty:Int) (c:CS):List St→Rs CS
 |[]=> .ok c
 |s :: l=>(stepC p ty c s).andThen fun c1=>stepsC p ty c1 l
def stepC (p:Pg) (ty:Int) (c:CS):St→Rs CS
 |.mk op out t args int code types effs regs modes region keep blocks =>
  if !(plainStep (.mk op out t args int code types effs regs modes region keep blocks) && formedL p.datas ty [t] && formedL p.datas ty types) then .no
  else match c.all args with
  |none=> .no
  |some as =>
   (if op<26∧op≠7∧op≠17 then (if typedC p (.mk op out t args int code types effs regs modes region keep blocks) as then .ok c else .no)
    else if op=7 then
     (if as=[]∧blocks.length=1∧t.kind=6 then valuesC p ty c [t.args.take 1] (t.args.getD 1 intT) blocks else .no)
    else if op=26 then (if sameL as [boolT]∧blocks.length=2 then valuesC p ty c [[],[]] t blocks else .no)
    else if op=27 then
     (match as with
      |[a]=>if a.kind=4∧blocks.length=(consOf p a.n).length then
       (if bindsFit blocks (consOf p a.n) then (match caseBinds a.args (consOf p a.n) with|some bs=>valuesC p ty c bs t blocks|none=> .big) else .no)
       else .no
      |_=> .no)
    else
     (if as=[] then (match blocks with
      |b0 :: b1 :: arms=>(blockC p ty c [] 0 b0).andThen fun r=>(blockC p ty r.1 [r.2] 0 b1).andThen fun r1=>if sameL [r1.2] [t] then armsC p ty r1.1 t [] arms else .no
      |_=> .no) else .no)).andThen fun c1=>match c1.bind out t with|some c2=> .ok c2|none=> .no
def valuesC (p:Pg) (ty:Int) (c:CS) (binds:List (List Ty)) (t:Ty):List Bk→Rs CS
 |[]=> .ok c
 |b :: l=>(blockC p ty c (binds.headD []) 0 b).andThen fun r=>if sameL [r.2] [t] then valuesC p ty r.1 binds.tail t l else .no
def armsC (p:Pg) (ty:Int) (c:CS) (t:Ty) (before:List Bk):List Bk→Rs CS
 |[]=> .ok c
 |b :: l=>if codeOk p before b then (blockC p ty c [intT] b.code b).andThen fun r=>if sameL [r.2] [t] then armsC p ty r.1 t (before++[b]) l else .no else .no
end
def paramsC (c:CS):Nat→List Ty→Option CS
 |_,[]=>some c
 |k,t :: l=>match c.bind k t with|some c1=>paramsC c1 (k+1) l|none=>none
def funC (p:Pg) (f:Fu):Rs Unit :=
 match paramsC ⟨[],[]⟩ 0 f.params with
 |none=> .no
 |some c=>(blockC p f.types c [] 0 f.body).andThen fun r=>if sameL [r.2] [f.result] then .ok () else .no
def funsC (p:Pg):List Fu→Int
 |[]=>0
 |f :: l=>match funC p f with| .ok _=>funsC p l| .no=>40| .big=>1
def validP (p:Pg):Int:=if bigP p then 1 else if headsOk p then funsC p p.funs else 40
end
end Go.Proofs.Ytadffbgbndibpaa
