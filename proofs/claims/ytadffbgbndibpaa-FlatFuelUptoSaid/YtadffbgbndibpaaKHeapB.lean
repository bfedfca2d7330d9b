/- RnE, HeapB: lemmas and walks of the claim. -/
import Derived.Test.YtadffbgbndibpaaKRnW
import Derived.Test.YtadffbgbndibpaaKFlB
import Derived.Shelf.Bits.Mul64
set_option linter.unusedVariables false
set_option linter.unusedSimpArgs false
set_option maxHeartbeats 16000000
set_option maxRecDepth 100000
namespace Go.Proofs.Ytadffbgbndibpaa
section
open Go Go.RowKit
theorem mul64_one (n:Nat) (h:n≤4096) (w:World) :
 Calls Try.prog 63 #[.int .u64 1, .int .u64 n] w fun e w'=>e= .returned (.tuple #[.int .u64 0, .int .u64 n])∧w=w':=by
 have e1:bits .and .u64 (n:Int) 4294967295=(n:Int):=by rw [Mul64.maskN n (by omega),Nat.mod_eq_of_lt (by omega)]
 have e2:(n:Int) / 4294967296=0:=by omega
 have e3:bits .and .u64 1 4294967295=1:=by kernel_rfl
 have e4:bits .and .u64 0 4294967295=0:=by kernel_rfl
 have h0:(0:Int)≤n:=by omega
 have h1:(n:Int)≤4096:=by omega
 clear h
 go_enter Try.func63,Try.ntmps63
 go_wp2
 go_ret2
 exact ⟨rfl,rfl⟩
theorem mul_one_any (n:Nat) (h:n≤4096) (w:World) :
 Calls Try.prog 61 #[.int .u64 1, .int .u64 n] w fun e w'=>e= .returned (.tuple #[.int .u64 0, .int .u64 n])∧w=w':=by
 have H:=Hd.mk (mul64_one n h w)
 clear h
 go_enter Try.func61,Try.ntmps61
 go_wp2_with fail
 refine H.out.mono ?_
 rintro e w' ⟨rfl,rfl⟩
 go_wp2
 go_ret2
 exact ⟨rfl,rfl⟩
end
section
open Go Go.RowKit
theorem add_plainS (g j:Nat):(⟨g,0,none⟩:Addr).add j=⟨g,j,none⟩:=by unfold Addr.add;split <;> simp_all
theorem add_plainO (g o j:Nat):(⟨g,o,none⟩:Addr).add j=⟨g,o+j,none⟩:=by unfold Addr.add;split <;> simp_all
def capOf:Value→Nat| .slice _ _ c=>c|_=>0
section
variable {P:Program} (w:World)
theorem run_append_zerosS (t ti ty e:TypeId) (i:TypeInfo) (z:Value) (size bytes:Nat) (ht:P.underlying t=some (.slice e)) {k:IntKind} (hti:P.underlying ti=some (.int k)) (hi:P.info? e=some i) (hz:i.zero=some z) (hsize:i.size=size) (hby:i.bytes=bytes) (hzs:z.cells.size=size) (hsz:0<size) (hb0:0<bytes) (ρ:Ghost) (tg:Tag) (v:Value) (n:Nat) (xs:List Value) (hown:OwnSl w ρ tg e size v n xs) (kx:IntKind) (m:Nat) (h1:∀ u ∈ (Builtin.zeroCells z.cells m).toList,u.oneCell'=true) (hbytes:(n+m)*bytes≤140737488355328) :
 ∃ v' w' ρ',(Builtin.append_ #[t,ti] ty #[v, .int kx m]).run P w= .ok v' w'∧OwnSl w' ρ' tg e size v' (n+m) (xs++(Builtin.zeroCells z.cells m).toList)∧Step (· =tg) w ρ w' ρ'∧(capOf v<n+m→Below w.heap.size w w'∧∀ k,v'.ownBlock=some k→w.heap.size≤k):=by
 subst hsize
 subst hby
 have hle:n+m≤140737488355328:=Nat.le_trans (Nat.le_mul_of_pos_right _ hb0) hbytes
 have h63:n+m≤maxLen:=by simp only [maxLen];omega
 have hw:IntKind.i64.wrap (m:Int)=m:=by rw [IntKind.wrap_i64];omega
 have hw0:IntKind.i64.wrap 0=0:=by rw [IntKind.wrap_i64];rfl
 have hneg:¬((m:Int)<0):=by omega
 have hmb:m*i.bytes≤140737488355328:=Nat.le_trans (Nat.mul_le_mul_right _ (Nat.le_add_left m n)) hbytes
 have hbig:¬(281474976710656<(m:Int)*(i.bytes:Int)):=by
  rw [←Int.natCast_mul]
  omega
 have hsn:i.size≠0:=by omega
 obtain ⟨news,hnews⟩:∃ news,news=(Builtin.zeroCells z.cells m).toList:=⟨_,rfl⟩
 rw [←hnews] at h1 ⊢
 have hl:news.length=m*i.size:=by rw [hnews,Array.length_toList,size_zeroCells,hzs]
 have hna:Builtin.zeroCells z.cells m=news.toArray:=by rw [hnews]
 have hlen:(xs++news).length=(n+m)*i.size:=by rw [List.length_append,hown.1,hl,Nat.add_mul]
 have hnil:m=0→news=[]:=fun h=>List.eq_nil_of_length_eq_zero (by rw [hl,h,Nat.zero_mul])
 have grown:∀ (old:Nat),old<n+m →
  OwnSl (w.drew.alloc (.cells (xs.toArray++news.toArray++Builtin.zeroCells z.cells (grownCap w (n+m) old e-(n+m))) e)) (ρ.put w.heap.size tg) tg e i.size
   (.slice (some ⟨w.heap.size,0,none⟩) (n+m) (grownCap w (n+m) old e)) (n+m) (xs++news) ∧
  Step (· =tg) w ρ (w.drew.alloc (.cells (xs.toArray++news.toArray++Builtin.zeroCells z.cells (grownCap w (n+m) old e-(n+m))) e)) (ρ.put w.heap.size tg) ∧
  Below w.heap.size w (w.drew.alloc (.cells (xs.toArray++news.toArray++Builtin.zeroCells z.cells (grownCap w (n+m) old e-(n+m))) e)):=by
  intro old ho
  have hge:=grownCap_ge w (n+m) old e
  have hcm:grownCap w (n+m) old e≤maxLen:=grownCap_le_maxLen w (n+m) old e h63
  refine ⟨⟨hlen, .inr ⟨w.heap.size,_,_,rfl,Ghost.put_same _ _ _,Blk.new' w.drew _ e,hge,hcm,?_,?_⟩⟩,((Step.refl _ w ρ).drew.alloc_tag _ tg),(Below.refl _ _).drew.alloc (Nat.le_refl _) _⟩
  ·simp only [Array.length_toList,Array.size_append,List.size_toArray,size_zeroCells,hzs,hown.1,hl, ←Nat.add_mul]
   apply Nat.le_of_eq
   congr 1
   omega
  ·simp only [Array.toList_append,List.append_assoc]
   rw [←List.append_assoc, ←hlen]
   exact List.take_left
 have runs:∀ (A:Option Addr) (cap:Nat),cap<n+m→(Builtin.firstCells i.size n (.slice A n cap)).run P w.drew= .ok xs.toArray w.drew→(Builtin.append_ #[t,ti] ty #[.slice A n cap, .int kx m]).run P w =
  .ok (.slice (some ⟨w.heap.size,0,none⟩) (n+m) (grownCap w (n+m) cap e)) (w.drew.alloc (.cells (xs.toArray++news.toArray++Builtin.zeroCells z.cells (grownCap w (n+m) cap e-(n+m))) e)):=by
  intro A cap hcap hfo
  have hn:¬(n+m≤cap):=by omega
  have h63':¬(9223372036854775807<((n:Int)+(m:Int))):=by omega
  have hfit:=growslice_fits hcap hbytes
  have h48':¬(281474976710656<Builtin.nextslicecap (n+m) cap*i.bytes):=by omega
  by_cases hm:m=0
  ·have hnl:=hnil hm
   subst hm
   rw [hnl]
   simp only [Nat.add_zero] at hn h63' h48' ⊢
   have h63'':¬(9223372036854775807<(n:Int)):=by omega
   simp [Builtin.append_,run_underlying ht,run_underlying hti,sizeOf,typeInfo,zeroValue,hi,hz,asInt,asIntOf,hw0,hn,h63'',h48',Question.forced,hfo,newRow,grownCap]
  ·have hmz:¬(m*i.size=0):=Nat.mul_ne_zero hm hsn
   simp [Builtin.append_,run_underlying ht,run_underlying hti,sizeOf,typeInfo,zeroValue,hi,hz,asInt,asIntOf,hw,hneg,hbig,hn,h63',h48',Question.forced,hfo,newRow,grownCap,hmz,hna]
   congr 2
   apply Array.ext'
   simp [List.append_assoc]
 rcases hown.2 with ⟨rfl,rfl⟩|⟨g,cap,L,rfl,hr0,hb,hnc,hcm,hcs,htake⟩
 ·have hx:xs=[]:=List.eq_nil_of_length_eq_zero (by simpa using hown.1)
  subst hx
  by_cases hm:m=0
  ·have hnl:=hnil hm
   subst hm
   rw [hnl]
   refine ⟨.slice none 0 0,w,ρ,?_,OwnSl.nil w ρ tg e i.size,Step.refl _ _ _,fun _=>⟨Below.refl _ _,fun k h=>by simp [Value.ownBlock] at h⟩⟩
   simp [Builtin.append_,run_underlying ht,run_underlying hti,sizeOf,typeInfo,hi,asInt,asIntOf,hw0]
  ·have hgr:=grown 0 (by omega)
   exact ⟨_,_,_,runs none 0 (by omega) (by simp [Builtin.firstCells]),hgr.1,hgr.2.1,fun _=>⟨hgr.2.2,fun k h=>by simp [Value.ownBlock] at h;omega⟩⟩
 ·by_cases hroom:n+m≤cap
  ·have hle:(n+m)*i.size≤cap*i.size:=Nat.mul_le_mul_right _ hroom
   have hfit:n*i.size+news.length≤L.length:=by rw [hl, ←Nat.add_mul];omega
   have hst:=run_storeCells_at P g (n*i.size) e news 0 L.toArray w hb (by simpa using hfit) h1
   simp only [Nat.add_zero] at hst
   refine ⟨.slice (some ⟨g,0,none⟩) (n+m) cap,_,ρ,?_,⟨hlen, .inr ⟨g,cap,L.take (n*i.size)++news++L.drop (n*i.size+news.length),rfl,hr0,setRow_heap w g L.toArray _ e _ hb,hroom,hcm,?_,?_⟩⟩,⟨rfl,rfl,rfl,by simp [World.setRow],fun _ _=>rfl,fun k _ hk=>setRow_other w g k _ (by rintro rfl;exact hk tg hr0 rfl),fun f k hk=>f k (by simpa [World.setRow] using hk)⟩,fun h=>by simp only [capOf] at h;omega⟩
   ·by_cases hm:m=0
    ·have hnl:=hnil hm
     subst hm
     rw [hnl] at hst ⊢
     have hself:w.setRow g L.toArray=w:=setRow_self w g L.toArray e (0,0) hb
     simp [Builtin.append_,run_underlying ht,run_underlying hti,sizeOf,typeInfo,hi,asInt,asIntOf,hw0,hnc,add_plainS,storeCells,hself]
    ·have hmz:¬(m*i.size=0):=Nat.mul_ne_zero hm hsn
     simp [Builtin.append_,run_underlying ht,run_underlying hti,sizeOf,typeInfo,zeroValue,hi,hz,asInt,asIntOf,hw,hneg,hbig,hroom,hmz,hna,Addr.add_lit,hst]
   ·simp only [List.length_append,List.length_take,List.length_drop]
    omega
   ·rw [htake, ←hlen]
    exact List.take_left
  ·have holds:∀ j u,xs[j]? =some u→w.cell? ((⟨g,0,none⟩:Addr).add j)=some u:=by
    intro j u hu
    rw [add_plainS,hb.at]
    rw [←htake,List.getElem?_take] at hu
    split at hu
    ·exact hu
    ·cases hu
   have hgr:=grown cap (by omega)
   exact ⟨_,_,_,runs (some ⟨g,0,none⟩) cap (by omega) (run_firstCells_some (P:=P) w.drew i.size n _ n cap xs hown.1 (by simpa using holds)),hgr.1,hgr.2.1,fun _=>⟨hgr.2.2,fun k h=>by simp [Value.ownBlock] at h;omega⟩⟩
end
theorem wpList_append_zerosS {P:Program} {w:World} {ops:Array Oper} {rest:List Oper} {o:Oper} {a:Act} {Q:Exit→Act→World→Prop} (hgd:o.guard=none) (s x:Operand) (t ti:TypeId) (ho:o.op= .call { callee:= .builtin .append,args:= #[s,x],argTypes:= #[t,ti] }) (e:TypeId) (z:Value) (size bytes:Nat) (ht:P.underlying t=some (.slice e)) {k:IntKind} (hti:P.underlying ti=some (.int k)) (hinfo:(P.info? e).map (fun i=>(i.zero,i.size,i.bytes))=some (some z,size,bytes)) (hzs:z.cells.size=size) (hsz:0<size) (hb0:0<bytes) (ρ:Ghost) (tg:Tag) (v:Value) (n:Nat) (xs:List Value) (hs:a.eval s=v) (hown:OwnSl w ρ tg e size v n xs) (kx:IntKind) (q:Int) (m:Nat) (hx:a.eval x= .int kx q) (hq:q=m) (h1:∀ u ∈ (Builtin.zeroCells z.cells m).toList,u.oneCell'=true) (hbytes:(n+m)*bytes≤140737488355328) (h:∀ v' w' ρ',OwnSl w' ρ' tg e size v' (n+m) (xs++(Builtin.zeroCells z.cells m).toList)→Step (· =tg) w ρ w' ρ'→(capOf v<n+m→Below w.heap.size w w'∧∀ k,v'.ownBlock=some k→w.heap.size≤k)→wpList P ops Q rest (a.put o.dst v') w'):wpList P ops Q (o :: rest) a w:=by
 subst hq
 obtain ⟨i,hi,hzz⟩:=Option.map_eq_some_iff.1 hinfo
 simp only [Prod.mk.injEq] at hzz
 obtain ⟨hz0,hz1,hz2⟩:=hzz
 obtain ⟨v',w',ρ',hr,h2,h3,h4⟩:=run_append_zerosS (P:=P) w t ti o.type e i z size bytes ht hti hi hz0 hz1 hz2 hzs hsz hb0 ρ tg v n xs hown kx m h1 hbytes
 refine wpList_plain hgd fun K hK=>?_
 unfold Oper.wp execOp
 simp only [ho,resolve,invoke,builtin,Sem.run_bind,Sem.run_pure,Result.andThen_ok,List.map_toArray,List.map_cons,List.map_nil,hs,hx,hr]
 exact hK _ _ (h v' w' ρ' h2 h3 h4)
theorem OwnSl.opn {w:World} {ρ:Ghost} {t:Tag} {e:TypeId} {sz:Nat} {v:Value} {n:Nat} {xs:List Value} (h:OwnSl w ρ t e sz v n xs) (hn:0<n) :
 ∃ g c L,v= .slice (Option.some ⟨g,0,none⟩) n c∧ρ g=Option.some t∧Blk w g e L∧n≤c∧c≤maxLen∧c*sz≤L.length∧L.take (n*sz)=xs:=by
 rcases h.2 with ⟨_,h0⟩|h
 ·omega
 ·exact h
theorem OwnSl.mk {w:World} {ρ:Ghost} {t:Tag} {e:TypeId} {sz g n c:Nat} {L xs:List Value} (hg:ρ g=Option.some t) (hb:Blk w g e L) (h1:n≤c) (h2:c≤maxLen) (h3:c*sz≤L.length) (h4:L.take (n*sz)=xs) :
 OwnSl w ρ t e sz (.slice (Option.some ⟨g,0,none⟩) n c) n xs:=by
 refine ⟨?_, .inr ⟨g,c,L,rfl,hg,hb,h1,h2,h3,h4⟩⟩
 have:n*sz≤c*sz:=Nat.mul_le_mul_right _ h1
 rw [←h4,List.length_take]
 omega
theorem zeroCells_mem (z:Array Value) (n:Nat) (u:Value) (h:u ∈ (Builtin.zeroCells z n).toList):u ∈ z.toList:=by
 simp only [Builtin.zeroCells,Array.toList_map,List.mem_map,Array.mem_toList_iff,Array.mem_range] at h
 obtain ⟨i,hi,rfl⟩:=h
 have hp:0<z.size:=by
  rcases Nat.eq_zero_or_pos z.size with h|h
  ·rw [h] at hi;omega
  ·exact h
 have hlt:=Nat.mod_lt i hp
 rw [getElem!_pos z _ hlt]
 exact Array.mem_toList_iff.2 (Array.getElem_mem hlt)
theorem zeroCells_one (z:Array Value) (n:Nat) (hz:∀ u ∈ z.toList,u.oneCell'=true):∀ u ∈ (Builtin.zeroCells z n).toList,u.oneCell'=true:=fun u h=>hz u (zeroCells_mem z n u h)
theorem run_append_nothing {P:Program} (w:World) (t ty e:TypeId) (i:TypeInfo) (ht:P.underlying t=some (.slice e)) (hi:P.info? e=some i) (A:Option Addr) (n c:Nat) (hnc:n≤c) (A':Option Addr) (c':Nat) :
 (Builtin.append_ #[t,t] ty #[.slice A n c, .slice A' 0 c']).run P w= .ok (.slice A n c) w:=by
 have hl:∀ x:Addr,(loadCells x 0).run P w= .ok #[] w:=fun x=>by simpa using run_loadCells_list (P:=P) w x [] (by simp)
 cases A <;> cases A' <;> simp [Builtin.append_,run_underlying ht,sizeOf,typeInfo,hi,Builtin.lenOf,Builtin.firstCells,hnc,storeCells,hl]
theorem run_append_two {P:Program} (w:World) (t ty e:TypeId) (i:TypeInfo) (z:Value) (size bytes:Nat) (ht:P.underlying t=some (.slice e)) (hi:P.info? e=some i) (hz:i.zero=some z) (hsize:i.size=size) (hby:i.bytes=bytes) (hzs:z.cells.size=size) (hsz:0<size) (ρ:Ghost) (tg tg2:Tag) (v:Value) (n:Nat) (xs:List Value) (hown:OwnSl w ρ tg e size v n xs) (x:Value) (m:Nat) (news:List Value) (hx:OwnSl w ρ tg2 e size x m news) (h1:∀ u ∈ news,u.oneCell'=true) (h63:n+m≤maxLen) (hbytes:(n+m)*bytes≤140737488355328) :
 ∃ v' w' ρ',(Builtin.append_ #[t,t] ty #[v,x]).run P w= .ok v' w'∧OwnSl w' ρ' tg e size v' (n+m) (xs++news)∧Step (· =tg) w ρ w' ρ':=by
 rcases Nat.eq_zero_or_pos m with h0|h0
 ·subst h0
  have hn:news=[]:=List.eq_nil_of_length_eq_zero (by simpa using hx.len)
  subst hn
  obtain ⟨A,c,rfl,hc1,hc2⟩:=hown.form
  obtain ⟨A',c',rfl,_,_⟩:=hx.form
  exact ⟨_,_,ρ,run_append_nothing w t ty e i ht hi A n c hc1 A' c',by simpa using hown,Step.refl _ _ _⟩
 ·obtain ⟨g,c,L,rfl,hg,hb,hc1,hc2,hc3,htk⟩:=hx.opn h0
  refine run_append_ownS w t ty e i z size bytes ht hi hz hsize hby hzs hsz ρ tg v n xs hown ⟨g,0,none⟩ m c news hx.len (fun j u hu=>?_) h1 h63 hbytes
  rw [add_plainS,hb.at]
  rw [←htk,List.getElem?_take] at hu
  split at hu
  ·exact hu
  ·cases hu
theorem wpList_append_two {P:Program} {w:World} {ops:Array Oper} {rest:List Oper} {o:Oper} {a:Act} {Q:Exit→Act→World→Prop} (hgd:o.guard=none) (s x:Operand) (t:TypeId) (ho:o.op= .call { callee:= .builtin .append,args:= #[s,x],argTypes:= #[t,t] }) (e:TypeId) (z:Value) (size bytes:Nat) (ht:P.underlying t=some (.slice e)) (hinfo:(P.info? e).map (fun i=>(i.zero,i.size,i.bytes))=some (some z,size,bytes)) (hzs:z.cells.size=size) (hsz:0<size) (ρ:Ghost) (tg tg2:Tag) (v:Value) (n:Nat) (xs:List Value) (hs:a.eval s=v) (hown:OwnSl w ρ tg e size v n xs) (vx:Value) (m:Nat) (news:List Value) (hx:a.eval x=vx) (hxo:OwnSl w ρ tg2 e size vx m news) (h1:∀ u ∈ news,u.oneCell'=true) (h63:n+m≤maxLen) (hbytes:(n+m)*bytes≤140737488355328) (h:∀ v' w' ρ',OwnSl w' ρ' tg e size v' (n+m) (xs++news)→Step (· =tg) w ρ w' ρ'→wpList P ops Q rest (a.put o.dst v') w'):wpList P ops Q (o :: rest) a w:=by
 obtain ⟨i,hi,hzz⟩:=Option.map_eq_some_iff.1 hinfo
 simp only [Prod.mk.injEq] at hzz
 obtain ⟨hz0,hz1,hz2⟩:=hzz
 obtain ⟨v',w',ρ',hr,h2,h3⟩:=run_append_two (P:=P) w t o.type e i z size bytes ht hi hz0 hz1 hz2 hzs hsz ρ tg tg2 v n xs hown vx m news hxo h1 h63 hbytes
 refine wpList_plain hgd fun K hK=>?_
 unfold Oper.wp execOp
 simp only [ho,resolve,invoke,builtin,Sem.run_bind,Sem.run_pure,Result.andThen_ok,List.map_toArray,List.map_cons,List.map_nil,hs,hx,hr]
 exact hK _ _ (h v' w' ρ' h2 h3)
def splice {α:Type} (L:List α) (o:Nat) (cs:List α):List α:=L.take o++cs++L.drop (o+cs.length)
theorem splice_length {α:Type} {L:List α} {o:Nat} {cs:List α} (h:o+cs.length≤L.length):(splice L o cs).length=L.length:=by
 simp only [splice,List.length_append,List.length_take,List.length_drop]
 omega
theorem splice_nil {α:Type} (L:List α) (o:Nat):splice L o []=L:=by simp [splice]
theorem splice_map {α β:Type} (f:α→β) (L:List α) (o:Nat) (cs:List α):(splice L o cs).map f=splice (L.map f) o (cs.map f):=by simp [splice]
theorem splice_get {α:Type} {L:List α} {o:Nat} {cs:List α} (h:o+cs.length≤L.length) (i:Nat) :
 (splice L o cs)[i]? =if i<o then L[i]? else if i<o+cs.length then cs[i-o]? else L[i]? :=by
 unfold splice
 have hl:(L.take o).length=o:=by simp;omega
 by_cases h1:i<o
 ·rw [if_pos h1,List.append_assoc,List.getElem?_append_left (by omega),List.getElem?_take,if_pos h1]
 ·rw [if_neg h1,List.append_assoc,List.getElem?_append_right (by omega),hl]
  by_cases h2:i<o+cs.length
  ·rw [if_pos h2,List.getElem?_append_left (by omega)]
  ·rw [if_neg h2,List.getElem?_append_right (by omega),List.getElem?_drop]
   congr 1
   omega
theorem splice_take {α:Type} {L:List α} {o N:Nat} {cs:List α} (h:o+cs.length≤N) (hN:N≤L.length):(splice L o cs).take N=splice (L.take N) o cs:=by
 apply List.ext_getElem?
 intro i
 rw [List.getElem?_take,splice_get (by omega),splice_get (by rw [List.length_take];omega)]
 simp only [List.getElem?_take]
 by_cases h1:i<N
 ·simp [h1]
 ·rw [if_neg h1,if_neg (by omega),if_neg (by omega),if_neg h1]
theorem splice_next {α:Type} {L:List α} {o:Nat} {cs ds:List α} (h:o+cs.length+ds.length≤L.length):splice (splice L o cs) (o+cs.length) ds=splice L o (cs++ds):=by
 have hl:(splice L o cs).length=L.length:=splice_length (by omega)
 apply List.ext_getElem?
 intro i
 rw [splice_get (by omega),splice_get (by omega),splice_get (by simp;omega)]
 by_cases h1:i<o
 ·rw [if_pos (by omega),if_pos h1,if_pos h1]
 ·by_cases h2:i<o+cs.length
  ·rw [if_pos h2,if_neg h1,if_pos h2,if_neg h1,if_pos (by simp;omega),List.getElem?_append_left (by omega)]
  ·rw [if_neg h2,if_neg h1,if_neg h2,if_neg h1]
   by_cases h3:i<o+cs.length+ds.length
   ·rw [if_pos h3,if_pos (by simp;omega),List.getElem?_append_right (by omega)]
    congr 1
    omega
   ·rw [if_neg h3,if_neg (by simp;omega)]
theorem run_copyB {P:Program} (w:World) (t t' ty e:TypeId) (size:Nat) (ht:P.underlying t=some (.slice e)) (hs:(P.info? e).map (·.size)=some size) (g o dLen dCap:Nat) (T:TypeId) (L:List Value) (hb:Blk w g T L) (sA:Option Addr) (sLen sCap:Nat) (cs:List Value) (hl:cs.length=Nat.min sLen dLen*size) (hsrc:cs=[]∨∃ a,sA=some a∧∀ j u,cs[j]? =some u→w.cell? (a.add j)=some u) (hfit:o+cs.length≤L.length) (h1:∀ u ∈ cs,u.oneCell'=true) :
 (Builtin.copy_ #[t,t'] ty #[.slice (some ⟨g,o,none⟩) dLen dCap, .slice sA sLen sCap]).run P w= .ok (goInt (Nat.min sLen dLen)) (w.setRow g (splice L o cs).toArray):=by
 have hst:=run_storeCells_at P g o T cs 0 L.toArray w hb (by simpa using hfit) h1
 simp only [Nat.add_zero] at hst
 cases hq:P.info? e with
 |none=>simp [hq] at hs
 |some i =>
  have hi:i.size=size:=by simpa [hq] using hs
  rcases hsrc with rfl|⟨a,rfl,hc⟩
  ·have h0:Nat.min sLen dLen*size=0:=by simpa using hl.symm
   have hst':(storeCells ⟨g,o,none⟩ []).run P w= .ok () (w.setRow g (splice L o []).toArray):=by
    have hself:w.setRow g L.toArray=w:=setRow_self w g L.toArray T (0,0) hb
    simp [storeCells,splice,hself]
   cases sA with
   |none=>simp [Builtin.copy_,run_underlying ht,Builtin.lenOf,Builtin.firstCells,sizeOf,typeInfo,hq,hst']
   |some a =>
    have hld:(loadCells a (Nat.min sLen dLen*size)).run P w= .ok #[] w:=by rw [h0];simpa using run_loadCells_list (P:=P) w a [] (by simp)
    simp [Builtin.copy_,run_underlying ht,Builtin.lenOf,Builtin.firstCells,sizeOf,typeInfo,hq,hi,hld,hst']
  ·have hld:=run_loadCells_list (P:=P) w a cs hc
   rw [hl] at hld
   simp [Builtin.copy_,run_underlying ht,Builtin.lenOf,Builtin.firstCells,sizeOf,typeInfo,hq,hi,hld]
   rw [hst]
   simp [splice]
theorem wpList_copyB {P:Program} {w:World} {ops:Array Oper} {rest:List Oper} {o:Oper} {a:Act} {Q:Exit→Act→World→Prop} (hgd:o.guard=none) (d s:Operand) (t t':TypeId) (ho:o.op= .call { callee:= .builtin .copy,args:= #[d,s],argTypes:= #[t,t'] }) (e:TypeId) (size:Nat) (ht:P.underlying t=some (.slice e)) (hs:(P.info? e).map (·.size)=some size) (g off dLen dCap:Nat) (T:TypeId) (L:List Value) (hd:a.eval d= .slice (some ⟨g,off,none⟩) dLen dCap) (hb:Blk w g T L) (sA:Option Addr) (sLen sCap:Nat) (hx:a.eval s= .slice sA sLen sCap) (cs:List Value) (hl:cs.length=Nat.min sLen dLen*size) (hsrc:cs=[]∨∃ a,sA=some a∧∀ j u,cs[j]? =some u→w.cell? (a.add j)=some u) (hfit:off+cs.length≤L.length) (h1:∀ u ∈ cs,u.oneCell'=true) (ρ:Ghost) (tg:Tag) (hρ:ρ g=some tg) (h:∀ w',Blk w' g T (splice L off cs)→Step (· =tg) w ρ w' ρ→(∀ k,k≠g→w'.heap[k]? =w.heap[k]?)→wpList P ops Q rest (a.put o.dst (goInt (Nat.min sLen dLen))) w'):wpList P ops Q (o :: rest) a w:=by
 have hr:=run_copyB (P:=P) w t t' o.type e size ht hs g off dLen dCap T L hb sA sLen sCap cs hl hsrc hfit h1
 refine wpList_plain hgd fun K hK=>?_
 unfold Oper.wp execOp
 simp only [ho,resolve,invoke,builtin,Sem.run_bind,Sem.run_pure,Result.andThen_ok,List.map_toArray,List.map_cons,List.map_nil,hd,hx,hr]
 refine hK _ _ (h _ (setRow_heap w g L.toArray _ T _ hb) ?_ (fun k hk=>setRow_other w g k _ hk))
 exact ⟨rfl,rfl,rfl,by simp [World.setRow],fun _ _=>rfl,fun k _ hk=>setRow_other w g k _ (by rintro rfl;exact hk tg hρ rfl),fun f k hk=>f k (by simpa [World.setRow] using hk)⟩
theorem run_clearB {P:Program} (w:World) (t ty e:TypeId) (i:TypeInfo) (z:Value) (ht:P.underlying t=some (.slice e)) (hi:P.info? e=some i) (hz:i.zero=some z) (hzc:z.cells= #[z]) (h1:z.oneCell'=true) (g o n c:Nat) (T:TypeId) (L:List Value) (hb:Blk w g T L) (hfit:o+n≤L.length) (hn:0<n) :
 (Builtin.clear_ #[t] ty #[.slice (some ⟨g,o,none⟩) n c]).run P w= .ok (.tuple #[]) (w.setRow g (splice L o (List.replicate n z)).toArray):=by
 have hzl:(Builtin.zeroCells z.cells n).toList=List.replicate n z:=by
  rw [hzc]
  apply List.ext_getElem
  ·simp [size_zeroCells]
  ·intro k h1 h2
   simp [Builtin.zeroCells,Nat.mod_one]
 have hst:=run_storeCells_at P g o T (List.replicate n z) 0 L.toArray w hb (by simpa using hfit) (by intro u hu;rw [(List.mem_replicate.1 hu).2];exact h1)
 simp only [Nat.add_zero] at hst
 have hn0:n≠0:=by omega
 obtain ⟨m,rfl⟩:∃ m,n=m+1:=⟨n-1,by omega⟩
 simp [Builtin.clear_,run_underlying ht,zeroValue,typeInfo,hi,hz]
 rw [hzl,hst]
 simp [splice]
theorem wpList_clearB {P:Program} {w:World} {ops:Array Oper} {rest:List Oper} {o:Oper} {a:Act} {Q:Exit→Act→World→Prop} (hgd:o.guard=none) (x:Operand) (t:TypeId) (ho:o.op= .call { callee:= .builtin .clear,args:= #[x],argTypes:= #[t] }) (e:TypeId) (z:Value) (bytes:Nat) (ht:P.underlying t=some (.slice e)) (hinfo:(P.info? e).map (fun i=>(i.zero,i.size,i.bytes))=some (some z,1,bytes)) (hzc:z.cells= #[z]) (h1:z.oneCell'=true) (g off n c:Nat) (T:TypeId) (L:List Value) (hx:a.eval x= .slice (some ⟨g,off,none⟩) n c) (hb:Blk w g T L) (hfit:off+n≤L.length) (hn:0<n) (ρ:Ghost) (tg:Tag) (hρ:ρ g=some tg) (h:∀ w',Blk w' g T (splice L off (List.replicate n z))→Step (· =tg) w ρ w' ρ→wpList P ops Q rest (a.put o.dst (.tuple #[])) w'):wpList P ops Q (o :: rest) a w:=by
 obtain ⟨i,hi,hzz⟩:=Option.map_eq_some_iff.1 hinfo
 simp only [Prod.mk.injEq] at hzz
 obtain ⟨hz0,hz1,hz2⟩:=hzz
 have hr:=run_clearB (P:=P) w t o.type e i z ht hi hz0 hzc h1 g off n c T L hb hfit hn
 refine wpList_plain hgd fun K hK=>?_
 unfold Oper.wp execOp
 simp only [ho,resolve,invoke,builtin,Sem.run_bind,Sem.run_pure,Result.andThen_ok,List.map_toArray,List.map_cons,List.map_nil,hx,hr]
 refine hK _ _ (h _ (setRow_heap w g L.toArray _ T _ hb) ?_)
 exact ⟨rfl,rfl,rfl,by simp [World.setRow],fun _ _=>rfl,fun k _ hk=>setRow_other w g k _ (by rintro rfl;exact hk tg hρ rfl),fun f k hk=>f k (by simpa [World.setRow] using hk)⟩
end
end Go.Proofs.Ytadffbgbndibpaa
