/- TiA, TiB, TiD: lemmas and walks of the claim. -/
import Derived.Test.YtadffbgbndibpaaKRnW
import Derived.Test.YtadffbgbndibpaaKFlE
import Derived.Test.YtadffbgbndibpaaKRyB
import Derived.Test.YtadffbgbndibpaaKGaS
set_option linter.unusedSectionVars false
set_option linter.unusedVariables false
set_option linter.unusedSimpArgs false
set_option maxHeartbeats 16000000
set_option maxRecDepth 100000
namespace Go.Proofs.Ytadffbgbndibpaa
section
open Go Go.RowKit
theorem flatten_get (sz:Nat):∀ (css:List (List Value)),(∀ cs,cs ∈ css→cs.length=sz)→∀ (i:Nat) (cs:List Value),css[i]? =some cs→∀ (j:Nat) (u:Value),cs[j]? =some u→css.flatten[i*sz+j]? =some u
 |[],_,i,cs,h,_,_,_=>by simp at h
 |c :: css,hl,0,cs,h,j,u,hj=>by
  simp only [List.getElem?_cons_zero,Option.some.injEq] at h
  subst h
  rw [List.flatten_cons,Nat.zero_mul,Nat.zero_add,List.getElem?_append_left (List.getElem?_eq_some_iff.1 hj).1,hj]
 |c :: css,hl,i+1,cs,h,j,u,hj=>by
  simp only [List.getElem?_cons_succ] at h
  have h1:=hl c List.mem_cons_self
  have ih:=flatten_get sz css (fun x hx=>hl x (List.mem_cons_of_mem _ hx)) i cs h j u hj
  rw [List.flatten_cons,Nat.add_mul,Nat.one_mul,show i*sz+sz+j=c.length+(i*sz+j) by omega,List.getElem?_append_right (by omega),Nat.add_sub_cancel_left,ih]
theorem SlR.ofBlk {α:Type} {w:World} {ρ:Ghost} {sz byt:Nat} {R:α→List Value→Prop} {b:Nat} {T:TypeId} {l:List α} (css:List (List Value)) (hb:Blk w b T css.flatten) (hρ:ρ b=none) (hl:css.length=l.length) (hs:∀ cs,cs ∈ css→cs.length=sz) (hR:∀ (i:Nat) (x:α) (cs:List Value),l[i]? =some x→css[i]? =some cs→R x cs) (hc:l.length≤maxLen) (hby:l.length*byt≤140737488355328):SlR w ρ sz byt R (.slice (some ⟨b,0,none⟩) l.length l.length) l:=by
 refine ⟨_,_,rfl,Nat.le_refl _,hc,hby,fun i x hi=>?_⟩
 have hlt:i<css.length:=by rw [hl];exact (List.getElem?_eq_some_iff.1 hi).1
 have hcs:=List.getElem?_eq_getElem hlt
 refine ⟨b,0,css[i],rfl,hρ,hb.lt,hs _ (List.mem_of_getElem? hcs),hR i x _ hi hcs,fun j u hj=>?_⟩
 rw [Nat.zero_add]
 exact hb.cell (flatten_get sz css hs i _ hcs j u hj)
def noE:Eff:=⟨[],[]⟩
def tinyStep (op out:Int) (ty:Ty) (args:List Int) (blocks:List Bk):St:= .mk op out ty args 0 0 [] [] [] [] 0 [] blocks
def tinyBlocks:List Bk:=[.mk 0 [] [tinyStep 22 2 intT [0,1] []] 2, .mk 0 [3] [] 3, .mk 0 [4] [] 4]
def tinySteps:List St:=[tinyStep 0 1 intT [] [],tinyStep 17 5 intT [] tinyBlocks,tinyStep 18 6 unitT [0] []]
def mainName:ByteArray:=⟨#[109,97,105,110]⟩
def tinyF:Fu:=⟨mainName,0,0,0,0,noE,[intT],intT, .mk 0 [] tinySteps 5⟩
def tinyP:Pg:=⟨[],[divName,idxName,sizName],[tinyF],0⟩
def noneP:Pg:=⟨[],[],[],0⟩
theorem tiny_valid:validP tinyP=0:=by kernel_rfl
theorem none_valid:validP noneP=40:=by kernel_rfl
theorem tiny_run:runP tinyP [7] 10=some ⟨0,[7],0,⟨#[]⟩,0,0⟩:=by kernel_rfl
end
section
open Go Go.RowKit
section
variable {P:Program} {ops:Array Oper} {rest:List Oper}
include P ops rest
theorem wpList_store_newW {op:Oper} {a:Act} {W:World} {Q:Exit→Act→World→Prop} (hgd:op.guard=none) (ty:TypeId) (x y:Operand) (ho:op.op= .store ty x y) (Z cells:Array Value) (B:Nat) (hx:a.eval x= .pointer (some ⟨B,0,none⟩)) (hB:B=W.heap.size) (hy:a.eval y= .agg cells) (hi:(P.info? ty).map (·.size)=some cells.size) (hz:Z.size=cells.size) (h1:cells.all (·.oneCell')=true) (h:wpList P ops Q rest (a.put op.dst undef) (W.alloc (.cells cells ty))):wpList P ops Q (op :: rest) a (W.alloc (.cells Z ty)):=by
 subst hB
 exact wpList_store_new hgd ty x y ho Z cells hx hy hi hz h1 h
section
variable {o:Oper} {a:Act} {w:World} {Q:Exit→Act→World→Prop} (hg:o.guard=none) (t:TypeId) (len:Nat) (parts:Array (Nat × Operand)) (ho:o.op= .buildSlice t len parts) (ps:List (Nat × Value)) (hp:(parts.map fun (i,x)=>(i,a.eval x)).toList=ps) (e:TypeId) (hu:P.underlying t=some (.slice e)) (z:Value) (n:Nat) (hinfo:(P.info? e).map (fun i=>(i.zero,i.size))=some (some z,n)) (h0:len*n≠0) (h24:len*n≤16777216) (cells:Array Value) (hf:Instr.fill (fun i=>some (i*n,n)) ((Array.range (len*n)).map (z.cells[· % z.cells.size]!)) ps=some cells)
include o a w Q hg t len parts ho ps hp e hu z n hinfo h0 h24 cells hf
theorem wpList_buildSliceV (h:wpList P ops Q rest (a.put o.dst (.slice (some ⟨w.heap.size,0,none⟩) len len)) (w.alloc (.cells cells e))):wpList P ops Q (o :: rest) a w:=by
 refine wpList_plain hg fun K hK=>?_
 obtain ⟨hz,hs⟩:=zero_of_info hinfo
 obtain ⟨i,hi,hi2⟩:=Option.map_eq_some_iff.1 hs
 have h24':¬(2 ^ 24<len*n):=by omega
 have hrun:(Instr.buildSlice t len (parts.map fun (i,x)=>(i,a.eval x))).run P w= .ok (.slice (some ⟨w.heap.size,0,none⟩) len len) (w.alloc (.cells cells e)):=by
  have hsz:(sizeOf e).run P w= .ok n w:=by simp [sizeOf,typeInfo,hi,hi2]
  unfold Instr.buildSlice
  simp only [Sem.run_bind,run_underlying hu,Result.andThen_ok,hsz,Sem.run_pure]
  rw [if_neg (by omega),if_neg h0]
  simp only [Sem.run_bind,hz,Result.andThen_ok,Sem.run_pure,hp,hf,newRow,run_newObj_alloc]
 unfold Oper.wp execOp
 simp only [ho,Sem.run_bind,hrun,Result.andThen_ok,Sem.run_pure]
 exact hK _ _ h
theorem wpList_buildSliceH (h:Hd (wpList P ops Q rest (a.put o.dst (.slice (some ⟨w.heap.size,0,none⟩) len len)) (w.alloc (.cells cells e)))):wpList P ops Q (o :: rest) a w :=
 wpList_buildSliceV hg t len parts ho ps hp e hu z n hinfo h0 h24 cells hf h.out
end
theorem wpList_store_newX {op:Oper} {a:Act} {W:World} {Q:Exit→Act→World→Prop} (hgd:op.guard=none) (ty:TypeId) (x y:Operand) (ho:op.op= .store ty x y) (Z cells:Array Value) (B:Nat) (hx:a.eval x= .pointer (some ⟨B,0,none⟩)) (hB:B=W.heap.size) (hy:a.eval y= .agg cells) (hi:(P.info? ty).map (·.size)=some cells.size) (hz:Z.size=cells.size) (h1:cells.all (·.oneCell')=true) (h:Hd (wpList P ops Q rest (a.put op.dst undef) (W.alloc (.cells cells ty)))):wpList P ops Q (op :: rest) a (W.alloc (.cells Z ty)) :=
 wpList_store_newW hgd ty x y ho Z cells B hx hB hy hi hz h1 h.out
theorem wpList_buildH {o:Oper} {a:Act} {w:World} {Q:Exit→Act→World→Prop} (hg:o.guard=none) (t:TypeId) (parts:Array (Nat × Operand)) (ho:o.op= .build t parts) (ps:List (Nat × Value)) (hp:(parts.map fun (i,x)=>(i,a.eval x)).toList=ps) (cells:Array Value) (hb:P.built t ps=some cells) (h:Hd (wpList P ops Q rest (a.put o.dst (.agg cells)) w)):wpList P ops Q (o :: rest) a w:=wpList_buildV hg t parts ho ps hp cells hb h.out
end
theorem foldl_set:∀ (l:List Value) (j0 off:Nat) (cells:Array Value),off+j0+l.length≤cells.size→((l.zipIdx j0).foldl (fun cs (x:Value × Nat)=>cs.setIfInBounds (off+x.2) x.1) cells).toList=cells.toList.take (off+j0)++l++cells.toList.drop (off+j0+l.length)
 |[],j0,off,cells,h=>by simp
 |x :: l,j0,off,cells,h=>by
  rw [List.length_cons] at h
  rw [List.zipIdx_cons,List.foldl_cons,foldl_set l (j0+1) off (cells.setIfInBounds (off+j0) x) (by rw [Array.size_setIfInBounds];omega)]
  rw [Array.toList_setIfInBounds,List.length_cons,show off+(j0+1)=off+j0+1 by omega,show off+j0+1+l.length=off+j0+(l.length+1) by omega]
  have h1:(cells.toList.set (off+j0) x).take (off+j0+1)=cells.toList.take (off+j0)++[x]:=by
   rw [List.take_add_one,List.take_set_of_le (Nat.le_refl _),List.getElem?_set_self (by simp;omega)]
   rfl
  have h2:(cells.toList.set (off+j0) x).drop (off+j0+(l.length+1))=cells.toList.drop (off+j0+(l.length+1)):=by
   rw [List.drop_set_of_lt (by omega)]
  rw [h1,h2,List.append_assoc,List.append_assoc,List.append_assoc]
  rfl
theorem fill_rows (n:Nat):∀ (css:List (List Value)) (k:Nat) (cells:Array Value),(∀ r,r ∈ css→r.length=n)→(k+css.length)*n≤cells.size →
 ∃ A,Instr.fill (fun i=>some (i*n,n)) cells ((css.zipIdx k).map fun x=>(x.2,Value.agg x.1.toArray))=some A∧A.toList=cells.toList.take (k*n)++css.flatten++cells.toList.drop ((k+css.length)*n)
 |[],k,cells,_,_=>⟨cells,rfl,by simp⟩
 |r :: css,k,cells,hr,hs=>by
  have hrn:=hr r List.mem_cons_self
  rw [List.length_cons] at hs
  have hkn:(k+(css.length+1))*n=k*n+n+css.length*n:=by rw [Nat.add_mul,Nat.add_mul,Nat.one_mul];omega
  have hs':k*n+n+css.length*n≤cells.size:=by rw [←hkn];exact hs
  have h0:=foldl_set r 0 (k*n) cells (by rw [hrn];omega)
  rw [Nat.add_zero,hrn] at h0
  obtain ⟨B,hB⟩:∃ B,(r.zipIdx 0).foldl (fun cs (x:Value × Nat)=>cs.setIfInBounds (k*n+x.2) x.1) cells=B:=⟨_,rfl⟩
  rw [hB] at h0
  have hBs:B.size=cells.size:=by
   have:=congrArg List.length h0
   simp only [Array.length_toList,List.length_append,List.length_take,List.length_drop,hrn] at this
   omega
  obtain ⟨A,hA,hA2⟩:=fill_rows n css (k+1) B (fun x hx=>hr x (List.mem_cons_of_mem _ hx)) (by rw [hBs,Nat.add_mul,Nat.add_mul,Nat.one_mul];omega)
  refine ⟨A,?_,?_⟩
  ·rw [List.zipIdx_cons,List.map_cons,Instr.fill]
   have hf:((Value.agg r.toArray).cells.zipIdx.foldl (fun cs (x:Value × Nat)=>cs.setIfInBounds (k*n+x.2) x.1) cells)=B:=by
    have hz:(Value.agg r.toArray).cells.zipIdx.toList=r.zipIdx:=by
     rw [Array.toList_zipIdx]
     rfl
    rw [←hB, ←Array.foldl_toList,hz]
   have hsz:(Value.agg r.toArray).cells.size=n:=by
    show r.toArray.size=n
    rw [List.size_toArray,hrn]
   dsimp only
   rw [hsz,if_neg (by simp;omega)]
   have hf':Array.foldl (fun cs x=>match x with|(c,j)=>cs.setIfInBounds (k*n+j) c) cells (Value.agg r.toArray).cells.zipIdx=B:=hf
   rw [hf']
   exact hA
  ·rw [hA2,h0,List.flatten_cons,List.length_cons,hkn]
   have e1:(cells.toList.take (k*n)++r++cells.toList.drop (k*n+n)).take ((k+1)*n)=cells.toList.take (k*n)++r:=by
    rw [List.take_append_of_le_length (by rw [List.length_append,List.length_take,hrn,Array.length_toList,Nat.add_mul,Nat.one_mul];omega),List.take_of_length_le (by rw [List.length_append,List.length_take,hrn,Array.length_toList,Nat.add_mul,Nat.one_mul];omega)]
   have e3:(k+1+css.length)*n=k*n+n+css.length*n:=by rw [Nat.add_mul,Nat.add_mul,Nat.one_mul]
   have e2:(cells.toList.take (k*n)++r++cells.toList.drop (k*n+n)).drop ((k+1+css.length)*n)=cells.toList.drop (k*n+n+css.length*n):=by
    have e4:(cells.toList.take (k*n)++r).length=k*n+n:=by rw [List.length_append,List.length_take,hrn,Array.length_toList];omega
    rw [e3,List.drop_append,e4,List.drop_of_length_le (by rw [e4];omega),List.nil_append,List.drop_drop]
    congr 1
    omega
   rw [e1,e2,List.append_assoc,List.append_assoc,List.append_assoc,List.append_assoc]
theorem wpList_buildRowsH {P:Program} {ops:Array Oper} {rest:List Oper} {o:Oper} {a:Act} {w:World} {Q:Exit→Act→World→Prop} (hg:o.guard=none) (t:TypeId) (len:Nat) (parts:Array (Nat × Operand)) (ho:o.op= .buildSlice t len parts) (css:List (List Value)) (hp:(parts.map fun (i,x)=>(i,a.eval x)).toList=css.zipIdx.map fun x=>(x.2,Value.agg x.1.toArray)) (e:TypeId) (hu:P.underlying t=some (.slice e)) (z:Value) (n:Nat) (hinfo:(P.info? e).map (fun i=>(i.zero,i.size))=some (some z,n)) (h0:len*n≠0) (h24:len*n≤16777216) (hl:css.length=len) (hr0:(css.all fun r=>r.length == n)=true) (cells:Array Value) (hc:css.flatten.toArray=cells) (h:Hd (wpList P ops Q rest (a.put o.dst (.slice (some ⟨w.heap.size,0,none⟩) len len)) (w.alloc (.cells cells e)))):wpList P ops Q (o :: rest) a w:=by
 subst hc
 have hr:∀ r,r ∈ css→r.length=n:=fun r h=>by simpa using List.all_eq_true.1 hr0 r h
 obtain ⟨A,hA,hA2⟩:=fill_rows n css 0 ((Array.range (len*n)).map (z.cells[· % z.cells.size]!)) hr (by rw [hl];simp)
 have hA3:A=css.flatten.toArray:=by
  apply Array.toList_inj.1
  rw [hA2,hl]
  simp
 rw [hA3] at hA
 exact wpList_buildSliceV hg t len parts ho _ hp e hu z n hinfo h0 h24 _ hA h.out
def AllW (w:World) (o:Obj) (K:World→Nat→Prop):Prop:=∀ (W':World) (X:Nat),W'=w.alloc o→X=w.heap.size→K W' X
theorem wpList_buildRowsA {P:Program} {ops:Array Oper} {rest:List Oper} {o:Oper} {a:Act} {w:World} {Q:Exit→Act→World→Prop} (hg:o.guard=none) (t:TypeId) (len:Nat) (parts:Array (Nat × Operand)) (ho:o.op= .buildSlice t len parts) (css:List (List Value)) (hp:(parts.map fun (i,x)=>(i,a.eval x)).toList=css.zipIdx.map fun x=>(x.2,Value.agg x.1.toArray)) (e:TypeId) (hu:P.underlying t=some (.slice e)) (z:Value) (n:Nat) (hinfo:(P.info? e).map (fun i=>(i.zero,i.size))=some (some z,n)) (h0:len*n≠0) (h24:len*n≤16777216) (hl:css.length=len) (hr0:(css.all fun r=>r.length == n)=true) (h:Hd (AllW w (.cells css.flatten.toArray e) fun W' X=>wpList P ops Q rest (a.put o.dst (.slice (some ⟨X,0,none⟩) len len)) W')):wpList P ops Q (o :: rest) a w:=by
 have hr:∀ r,r ∈ css→r.length=n:=fun r h=>by simpa using List.all_eq_true.1 hr0 r h
 obtain ⟨A,hA,hA2⟩:=fill_rows n css 0 ((Array.range (len*n)).map (z.cells[· % z.cells.size]!)) hr (by rw [hl];simp)
 have hA3:A=css.flatten.toArray:=by
  apply Array.toList_inj.1
  rw [hA2,hl]
  simp
 rw [hA3] at hA
 exact wpList_buildSliceV hg t len parts ho _ hp e hu z n hinfo h0 h24 _ hA (h.out _ _ rfl rfl)
end
section
open Go Go.RowKit
def AllR {α:Type} (R:α→List Value→Prop):List α→List (List Value)→Prop
 |[],[]=>True
 |x :: l,c :: m=>R x c∧AllR R l m
 |_,_=>False
theorem AllR.get {α:Type} {R:α→List Value→Prop}:∀ {l:List α} {m:List (List Value)},AllR R l m→l.length=m.length∧∀ (i:Nat) (x:α) (c:List Value),l[i]? =some x→m[i]? =some c→R x c
 |[],[],_=>⟨rfl,fun i x c h=>by simp at h⟩
 |x :: l,c :: m,h=>by
  obtain ⟨h1,h2⟩:=AllR.get h.2
  refine ⟨by rw [List.length_cons,List.length_cons,h1],fun i y d hi hd=>?_⟩
  cases i with
  |zero =>
   simp only [List.getElem?_cons_zero,Option.some.injEq] at hi hd
   subst hi
   subst hd
   exact h.1
  |succ i=>exact h2 i y d (by simpa using hi) (by simpa using hd)
 |[],_ :: _,h=>h.elim
 |_ :: _,[],h=>h.elim
theorem SlR.ofRows {α:Type} {w:World} {ρ:Ghost} {sz byt:Nat} {R:α→List Value→Prop} {b:Nat} {T:TypeId} {l:List α} (css:List (List Value)) (hb:Blk w b T css.flatten) (hρ:ρ b=none) (hs:∀ cs,cs ∈ css→cs.length=sz) (hR:AllR R l css) (hc:l.length≤1000) (hby:l.length*byt≤140737488355328):SlR w ρ sz byt R (.slice (some ⟨b,0,none⟩) l.length l.length) l :=
 SlR.ofBlk css hb hρ hR.get.1.symm hs hR.get.2 (by unfold maxLen;omega) hby
theorem i64z:I64 0:=⟨by decide,by decide⟩
theorem tyR_plain (w:World) (ρ:Ghost) (n:Nat) (k:Int) (hk:I64 k):TyR w ρ (n+1) (kindT k []) [.int .i64 k, .int .i64 0, .string ⟨#[]⟩, .slice none 0 0, .int .i64 0, .slice none 0 0, .slice none 0 0] :=
 ⟨_,_,_,rfl,hk,i64z,i64z,Nat.zero_le _,SlR.nil _ _ _ _ _,SlR.nil _ _ _ _ _,SlR.nil _ _ _ _ _⟩
theorem i64_small {k:Int} (h: -1000000≤k∧k≤1000000):I64 k:=⟨by omega,by omega⟩
theorem tinyStep_rep (w:World) (ρ:Ghost) (n:Nat) (B:Bk→List Value→Prop) (op out k:Int) (ho: -1000000≤op∧op≤1000000) (hu: -1000000≤out∧out≤1000000) (hk: -1000000≤k∧k≤1000000) (args:List Int) (va:Value) (ha:IntsR w ρ va args) (bs:List Bk) (vb:Value) (hb:SlR w ρ 4 64 B vb bs) :
 StR w ρ (n+1) B (tinyStep op out (kindT k []) args bs) [.int .i64 op, .int .i64 out, .int .i64 k, .int .i64 0, .string ⟨#[]⟩, .slice none 0 0, .int .i64 0, .slice none 0 0, .slice none 0 0,va, .int .i64 0, .int .i64 0, .slice none 0 0, .slice none 0 0, .slice none 0 0, .slice none 0 0, .int .i64 0, .slice none 0 0,vb] :=
 ⟨_,va,_,_,_,_,_,vb,rfl,i64_small ho,i64_small hu,i64z,i64z,i64z,tyR_plain w ρ n k (i64_small hk),ha,SlR.nil _ _ _ _ _,SlR.nil _ _ _ _ _,SlR.nil _ _ _ _ _,SlR.nil _ _ _ _ _,SlR.nil _ _ _ _ _,hb⟩
theorem tiny_rep (w:World) (X2 X3 X5 X6 X7 X8 X9 X10 X12 X13:Nat) (h2:Blk w X2 3 ([[.int .i64 0],[.int .i64 1]]:List (List Value)).flatten) (h3:Blk w X3 94 ([[.int .i64 22, .int .i64 2, .int .i64 0, .int .i64 0, .string ⟨#[]⟩, .slice none 0 0, .int .i64 0, .slice none 0 0, .slice none 0 0, .slice (some ⟨X2,0,none⟩) 2 2, .int .i64 0, .int .i64 0, .slice none 0 0, .slice none 0 0, .slice none 0 0, .slice none 0 0, .int .i64 0, .slice none 0 0, .slice none 0 0]]:List (List Value)).flatten) (h5:Blk w X5 3 ([[.int .i64 3]]:List (List Value)).flatten) (h6:Blk w X6 3 ([[.int .i64 4]]:List (List Value)).flatten) (h7:Blk w X7 46 ([[.int .i64 0, .slice none 0 0, .slice (some ⟨X3,0,none⟩) 1 1, .int .i64 2],[.int .i64 0, .slice (some ⟨X5,0,none⟩) 1 1, .slice none 0 0, .int .i64 3],[.int .i64 0, .slice (some ⟨X6,0,none⟩) 1 1, .slice none 0 0, .int .i64 4]]:List (List Value)).flatten) (h8:Blk w X8 3 ([[.int .i64 0]]:List (List Value)).flatten) (h9:Blk w X9 94 ([[.int .i64 0, .int .i64 1, .int .i64 0, .int .i64 0, .string ⟨#[]⟩, .slice none 0 0, .int .i64 0, .slice none 0 0, .slice none 0 0, .slice none 0 0, .int .i64 0, .int .i64 0, .slice none 0 0, .slice none 0 0, .slice none 0 0, .slice none 0 0, .int .i64 0, .slice none 0 0, .slice none 0 0],[.int .i64 17, .int .i64 5, .int .i64 0, .int .i64 0, .string ⟨#[]⟩, .slice none 0 0, .int .i64 0, .slice none 0 0, .slice none 0 0, .slice none 0 0, .int .i64 0, .int .i64 0, .slice none 0 0, .slice none 0 0, .slice none 0 0, .slice none 0 0, .int .i64 0, .slice none 0 0, .slice (some ⟨X7,0,none⟩) 3 3],[.int .i64 18, .int .i64 6, .int .i64 2, .int .i64 0, .string ⟨#[]⟩, .slice none 0 0, .int .i64 0, .slice none 0 0, .slice none 0 0, .slice (some ⟨X8,0,none⟩) 1 1, .int .i64 0, .int .i64 0, .slice none 0 0, .slice none 0 0, .slice none 0 0, .slice none 0 0, .int .i64 0, .slice none 0 0, .slice none 0 0]]:List (List Value)).flatten) (h10:Blk w X10 43 ([[.int .i64 0, .int .i64 0, .string ⟨#[]⟩, .slice none 0 0, .int .i64 0, .slice none 0 0, .slice none 0 0]]:List (List Value)).flatten) (h12:Blk w X12 9 ([[.string ⟨#[68,105,118]⟩],[.string ⟨#[73,110,100,101,120]⟩],[.string ⟨#[83,105,122,101]⟩]]:List (List Value)).flatten) (h13:Blk w X13 48 ([[.string ⟨#[109,97,105,110]⟩, .int .i64 0, .int .i64 0, .int .i64 0, .int .i64 0, .slice none 0 0, .slice none 0 0, .slice (some ⟨X10,0,none⟩) 1 1, .int .i64 0, .int .i64 0, .string ⟨#[]⟩, .slice none 0 0, .int .i64 0, .slice none 0 0, .slice none 0 0, .int .i64 0, .slice none 0 0, .slice (some ⟨X9,0,none⟩) 3 3, .int .i64 5]]:List (List Value)).flatten):PgR w NoG 3 tinyP [.slice none 0 0, .slice (some ⟨X12,0,none⟩) 3 3, .slice (some ⟨X13,0,none⟩) 1 1, .int .i64 0]:=by
 have a2:SlR w NoG 1 134217728 IntR (.slice (some ⟨X2,0,none⟩) 2 2) [0,1]:=SlR.ofRows (l:=[0,1]) (sz:=1) (byt:=134217728) (R:=IntR) ([[.int .i64 0],[.int .i64 1]]:List (List Value)) h2 rfl (by simp) ⟨⟨rfl,i64_small (by decide)⟩,⟨rfl,i64_small (by decide)⟩,trivial⟩ (by decide) (by decide)
 have a5:SlR w NoG 1 134217728 IntR (.slice (some ⟨X5,0,none⟩) 1 1) [3]:=SlR.ofRows (l:=[3]) (sz:=1) (byt:=134217728) (R:=IntR) ([[.int .i64 3]]:List (List Value)) h5 rfl (by simp) ⟨⟨rfl,i64_small (by decide)⟩,trivial⟩ (by decide) (by decide)
 have a6:SlR w NoG 1 134217728 IntR (.slice (some ⟨X6,0,none⟩) 1 1) [4]:=SlR.ofRows (l:=[4]) (sz:=1) (byt:=134217728) (R:=IntR) ([[.int .i64 4]]:List (List Value)) h6 rfl (by simp) ⟨⟨rfl,i64_small (by decide)⟩,trivial⟩ (by decide) (by decide)
 have a8:SlR w NoG 1 134217728 IntR (.slice (some ⟨X8,0,none⟩) 1 1) [0]:=SlR.ofRows (l:=[0]) (sz:=1) (byt:=134217728) (R:=IntR) ([[.int .i64 0]]:List (List Value)) h8 rfl (by simp) ⟨⟨rfl,i64_small (by decide)⟩,trivial⟩ (by decide) (by decide)
 have a3:SlR w NoG 19 320 (StR w NoG 1 (BkR w NoG 1)) (.slice (some ⟨X3,0,none⟩) 1 1) [tinyStep 22 2 intT [0,1] []]:=SlR.ofRows (l:=[tinyStep 22 2 intT [0,1] []]) (sz:=19) (byt:=320) (R:=StR w NoG 1 (BkR w NoG 1)) ([[.int .i64 22, .int .i64 2, .int .i64 0, .int .i64 0, .string ⟨#[]⟩, .slice none 0 0, .int .i64 0, .slice none 0 0, .slice none 0 0, .slice (some ⟨X2,0,none⟩) 2 2, .int .i64 0, .int .i64 0, .slice none 0 0, .slice none 0 0, .slice none 0 0, .slice none 0 0, .int .i64 0, .slice none 0 0, .slice none 0 0]]:List (List Value)) h3 rfl (by simp) ⟨tinyStep_rep w NoG 0 _ 22 2 0 (by decide) (by decide) (by decide) _ _ a2 _ _ (SlR.nil _ _ _ _ _),trivial⟩ (by decide) (by decide)
 have a7:SlR w NoG 4 64 (BkR w NoG 2) (.slice (some ⟨X7,0,none⟩) 3 3) tinyBlocks:=SlR.ofRows (l:=tinyBlocks) (sz:=4) (byt:=64) (R:=(BkR w NoG 2)) ([[.int .i64 0, .slice none 0 0, .slice (some ⟨X3,0,none⟩) 1 1, .int .i64 2],[.int .i64 0, .slice (some ⟨X5,0,none⟩) 1 1, .slice none 0 0, .int .i64 3],[.int .i64 0, .slice (some ⟨X6,0,none⟩) 1 1, .slice none 0 0, .int .i64 4]]:List (List Value)) h7 rfl (by simp) ⟨⟨_,_,rfl,i64_small (by decide),i64_small (by decide),SlR.nil _ _ _ _ _,a3⟩,⟨_,_,rfl,i64_small (by decide),i64_small (by decide),a5,SlR.nil _ _ _ _ _⟩,⟨_,_,rfl,i64_small (by decide),i64_small (by decide),a6,SlR.nil _ _ _ _ _⟩,trivial⟩ (by decide) (by decide)
 have a9:SlR w NoG 19 320 (StR w NoG 2 (BkR w NoG 2)) (.slice (some ⟨X9,0,none⟩) 3 3) tinySteps:=SlR.ofRows (l:=tinySteps) (sz:=19) (byt:=320) (R:=(StR w NoG 2 (BkR w NoG 2))) ([[.int .i64 0, .int .i64 1, .int .i64 0, .int .i64 0, .string ⟨#[]⟩, .slice none 0 0, .int .i64 0, .slice none 0 0, .slice none 0 0, .slice none 0 0, .int .i64 0, .int .i64 0, .slice none 0 0, .slice none 0 0, .slice none 0 0, .slice none 0 0, .int .i64 0, .slice none 0 0, .slice none 0 0],[.int .i64 17, .int .i64 5, .int .i64 0, .int .i64 0, .string ⟨#[]⟩, .slice none 0 0, .int .i64 0, .slice none 0 0, .slice none 0 0, .slice none 0 0, .int .i64 0, .int .i64 0, .slice none 0 0, .slice none 0 0, .slice none 0 0, .slice none 0 0, .int .i64 0, .slice none 0 0, .slice (some ⟨X7,0,none⟩) 3 3],[.int .i64 18, .int .i64 6, .int .i64 2, .int .i64 0, .string ⟨#[]⟩, .slice none 0 0, .int .i64 0, .slice none 0 0, .slice none 0 0, .slice (some ⟨X8,0,none⟩) 1 1, .int .i64 0, .int .i64 0, .slice none 0 0, .slice none 0 0, .slice none 0 0, .slice none 0 0, .int .i64 0, .slice none 0 0, .slice none 0 0]]:List (List Value)) h9 rfl (by simp) ⟨tinyStep_rep w NoG 1 _ 0 1 0 (by decide) (by decide) (by decide) _ _ (SlR.nil _ _ _ _ _) _ _ (SlR.nil _ _ _ _ _),tinyStep_rep w NoG 1 _ 17 5 0 (by decide) (by decide) (by decide) _ _ (SlR.nil _ _ _ _ _) _ _ a7,tinyStep_rep w NoG 1 _ 18 6 2 (by decide) (by decide) (by decide) _ _ a8 _ _ (SlR.nil _ _ _ _ _),trivial⟩ (by decide) (by decide)
 have a10:SlR w NoG 7 112 (TyR w NoG 3) (.slice (some ⟨X10,0,none⟩) 1 1) [intT]:=SlR.ofRows (l:=[intT]) (sz:=7) (byt:=112) (R:=(TyR w NoG 3)) ([[.int .i64 0, .int .i64 0, .string ⟨#[]⟩, .slice none 0 0, .int .i64 0, .slice none 0 0, .slice none 0 0]]:List (List Value)) h10 rfl (by simp) ⟨tyR_plain w NoG 2 0 (i64_small (by decide)),trivial⟩ (by decide) (by decide)
 have a12:SlR w NoG 1 16 StrR (.slice (some ⟨X12,0,none⟩) 3 3) [divName,idxName,sizName]:=SlR.ofRows (l:=[divName,idxName,sizName]) (sz:=1) (byt:=16) (R:=StrR) ([[.string ⟨#[68,105,118]⟩],[.string ⟨#[73,110,100,101,120]⟩],[.string ⟨#[83,105,122,101]⟩]]:List (List Value)) h12 rfl (by simp) ⟨⟨rfl,by decide⟩,⟨rfl,by decide⟩,⟨rfl,by decide⟩,trivial⟩ (by decide) (by decide)
 have a13:SlR w NoG 19 296 (FuR w NoG 3) (.slice (some ⟨X13,0,none⟩) 1 1) [tinyF]:=SlR.ofRows (l:=[tinyF]) (sz:=19) (byt:=296) (R:=(FuR w NoG 3)) ([[.string ⟨#[109,97,105,110]⟩, .int .i64 0, .int .i64 0, .int .i64 0, .int .i64 0, .slice none 0 0, .slice none 0 0, .slice (some ⟨X10,0,none⟩) 1 1, .int .i64 0, .int .i64 0, .string ⟨#[]⟩, .slice none 0 0, .int .i64 0, .slice none 0 0, .slice none 0 0, .int .i64 0, .slice none 0 0, .slice (some ⟨X9,0,none⟩) 3 3, .int .i64 5]]:List (List Value)) h13 rfl (by simp) ⟨⟨_,_,_,_,rfl,by decide,i64_small (by decide),i64_small (by decide),i64_small (by decide),i64_small (by decide),⟨_,_,rfl,SlR.nil _ _ _ _ _,SlR.nil _ _ _ _ _⟩,a10,tyR_plain w NoG 2 0 (i64_small (by decide)),⟨_,_,rfl,i64_small (by decide),i64_small (by decide),SlR.nil _ _ _ _ _,a9⟩⟩,trivial⟩ (by decide) (by decide)
 exact ⟨_,_,_,rfl,i64_small (by decide),SlR.nil _ _ _ _ _,a12,a13⟩
theorem none_rep (w:World):PgR w NoG 3 noneP [.slice none 0 0, .slice none 0 0, .slice none 0 0, .int .i64 0]:=⟨_,_,_,rfl,i64_small (by decide),SlR.nil _ _ _ _ _,SlR.nil _ _ _ _ _,SlR.nil _ _ _ _ _⟩
end
end Go.Proofs.Ytadffbgbndibpaa
