/- FlQ, FlS: lemmas and walks of the claim. -/
import Derived.Test.YtadffbgbndibpaaKFlP
import Derived.Maps.OwnSet
import Derived.Maps.Views
set_option linter.unusedVariables false
set_option linter.unusedSimpArgs false
set_option maxHeartbeats 16000000
set_option maxRecDepth 100000
namespace Go.Proofs.Ytadffbgbndibpaa
section
open Go Go.RowKit
open Go.Maps (Keyed int_keyed keyOf_int_mk)
theorem nodup_le (N:Nat):∀ l:List Int,l.Nodup→(∀ x ∈ l,0≤x∧x<N)→l.length≤N:=by
 induction N with
 |zero =>
  intro l _ h
  cases l with
  |nil=>simp
  |cons x l=>have:=h x (by simp);omega
 |succ N ih =>
  intro l hn h
  have h1:=ih (l.erase (N:Int)) (hn.erase _) (fun x hx=>by
   rw [hn.mem_erase_iff] at hx
   have:=h x hx.2
   have hne:=hx.1
   omega)
  rw [List.length_erase] at h1
  split at h1 <;> omega
structure CS.Ok (F:Ty→Prop) (c:CS):Prop where
 fm:∀ p ∈ c.bound,F p.2
 nodup:(c.bound.map (·.1)).Nodup
 range:∀ p ∈ c.bound,0≤p.1∧p.1<16384
 seen:∀ x ∈ c.seen,0≤x∧x<16384
 le:c.seen.length≤c.bound.length
 sub:∀ x ∈ c.seen,(lookT c.bound x).isSome=true
theorem CS.Ok.small {F:Ty→Prop} {c:CS} (h:c.Ok F):c.bound.length≤16384:=by
 have:=nodup_le 16384 (c.bound.map (·.1)) h.nodup (fun x hx=>by
  obtain ⟨p,hp,rfl⟩:=List.mem_map.1 hx
  exact h.range p hp)
 simpa using this
theorem lookT_none {b:List (Int × Ty)} {v:Int} (h:lookT b v=none):v ∉ b.map (·.1):=by
 unfold lookT at h
 rw [Option.map_eq_none_iff,List.find?_eq_none] at h
 intro hm
 obtain ⟨p,hp,rfl⟩:=List.mem_map.1 hm
 exact h p hp (by simp)
theorem lookT_cons (v:Int) (t:Ty) (b:List (Int × Ty)) (x:Int):lookT ((v,t) :: b) x=if v=x then some t else lookT b x:=by
 unfold lookT
 rw [List.find?_cons]
 by_cases h:v=x <;> simp [h]
theorem CS.Ok.bind {F:Ty→Prop} {c c':CS} {v:Int} {t:Ty} (h:c.Ok F) (hF:F t) (hb:c.bind v t=some c'):c'.Ok F∧c'=⟨(v,t) :: c.bound,c.seen++[v]⟩∧lookT c.bound v=none∧0≤v∧v<16384:=by
 unfold CS.bind at hb
 split at hb
 ·cases hb
 ·rename_i hn
  cases hb
  have h1:lookT c.bound v=none:=by
   cases hl:lookT c.bound v with
   |none=>rfl
   |some t'=>exact absurd (.inl (by simp [hl])) hn
  have h2:0≤v∧v<16384:=by
   constructor
   ·by_cases h:v<0
    ·exact absurd (.inr (.inl h)) hn
    ·omega
   ·by_cases h:16384≤v
    ·exact absurd (.inr (.inr h)) hn
    ·omega
  refine ⟨⟨?_,?_,?_,?_,?_,?_⟩,rfl,h1,h2⟩
  ·intro p hp
   rcases List.mem_cons.1 hp with rfl|hp
   ·exact hF
   ·exact h.fm p hp
  ·exact List.nodup_cons.2 ⟨lookT_none h1,h.nodup⟩
  ·intro p hp
   rcases List.mem_cons.1 hp with rfl|hp
   ·exact h2
   ·exact h.range p hp
  ·intro x hx
   rcases List.mem_append.1 hx with hx|hx
   ·exact h.seen x hx
   ·rw [List.mem_singleton] at hx
    subst hx
    exact h2
  ·have:=h.le
   simp
   omega
  ·intro x hx
   rw [lookT_cons]
   split
   ·rfl
   ·rename_i hne
    rcases List.mem_append.1 hx with hx|hx
    ·exact h.sub x hx
    ·rw [List.mem_singleton] at hx
     exact absurd hx.symm hne
theorem CS.Ok.cut {F:Ty→Prop} {c:CS} (h:c.Ok F) (k:Nat):(c.cut k).Ok F :=
 ⟨h.fm,h.nodup,h.range,fun x hx=>h.seen x (List.mem_of_mem_take hx),by
  have:=h.le
  show (c.seen.take k).length≤c.bound.length
  rw [List.length_take]
  omega,fun x hx=>h.sub x (List.mem_of_mem_take hx)⟩
theorem CS.bind_none {c:CS} {v:Int} {t:Ty} (h:c.bind v t=none):(lookT c.bound v).isSome=true∨v<0∨16384≤v:=by
 unfold CS.bind at h
 split at h
 ·assumption
 ·cases h
def TyE (w:World) (ρ:Ghost) (t:Ty) (cs:List Value):Prop:=∃ n,TyR w ρ n t cs
theorem TyE.step {T:Tag→Prop} {w w':World} {ρ ρ':Ghost} {t:Ty} {cs:List Value} (h:TyE w ρ t cs) (hs:Step T w ρ w' ρ'):TyE w' ρ' t cs:=by
 obtain ⟨n,h⟩:=h
 exact ⟨n,TyR.step hs n h⟩
def tyHeld (v:Value):Option (DataW Value × List MemPlace):=some (.held v,[])
theorem intKeyed:Keyed Try.prog 3:=int_keyed Try.underlying3
theorem mapTy:Try.prog.underlying 51=some (.map 3 43):=Try.underlying51
theorem i64_wf {x:Int} (h:I64 x):(Lit.int .i64 x).wf=true:=by
 obtain ⟨h1,h2⟩:=h
 have e1:IntKind.i64.min= -9223372036854775808:=by decide
 have e2:IntKind.i64.max=9223372036854775807:=by decide
 simp [Lit.wf,e1,e2,h1,h2]
def zeroTy:List Value:=[.int .i64 0, .int .i64 0, .string ⟨#[]⟩, .slice none 0 0, .int .i64 0, .slice none 0 0, .slice none 0 0]
theorem zeroTy_run (w:World):(zeroValue 43).run Try.prog w= .ok (.agg zeroTy.toArray) w:=by kernel_rfl
theorem zeroTy_any (w:World) (ρ:Ghost):TyR w ρ 1 intT zeroTy :=
 ⟨.slice none 0 0, .slice none 0 0, .slice none 0 0,rfl,by constructor <;> decide,by constructor <;> decide,by constructor <;> decide,by decide,SlR.nil _ _ _ _ _,SlR.nil _ _ _ _ _,SlR.nil _ _ _ _ _⟩
structure MapR (w:World) (ρ:Ghost) (b:Nat) (l:List (Int × Ty)):Prop where
 tag:ρ b=some (31,2)
 out:∃ D,w.ownsMap Try.prog 3 tyHeld b l.length D∧∀ x,match lookT l x with
  |none=>Maps.has D (.int .i64 x)=false
  |some t=>∃ cs,Maps.has D (.int .i64 x)=true∧(∀ z,D.atKey (.int .i64 x) z= .held (.agg cs.toArray))∧TyE w ρ t cs
theorem MapR.lt {w:World} {ρ:Ghost} {b:Nat} {l:List (Int × Ty)} (h:MapR w ρ b l):b<w.heap.size:=by
 obtain ⟨D,h1,_⟩:=h.out
 exact h1.lt
theorem ownsMap_of_heap {w w':World} {b n:Nat} {D:DataW Value} (h:w.ownsMap Try.prog 3 tyHeld b n D) (hb:w'.heap[b]? =w.heap[b]?):w'.ownsMap Try.prog 3 tyHeld b n D:=by
 obtain ⟨es,clock,h1,h2⟩:=h
 exact ⟨es,clock,hb.trans h1,h2⟩
theorem MapR.step {T:Tag→Prop} {w w':World} {ρ ρ':Ghost} {b:Nat} {l:List (Int × Ty)} (h:MapR w ρ b l) (hs:Step T w ρ w' ρ') (hT:¬T (31,2)):MapR w' ρ' b l:=by
 obtain ⟨D,h1,h2⟩:=h.out
 refine ⟨hs.tag h.lt h.tag,D,ownsMap_of_heap h1 (hs.block b h.lt (fun t ht=>by rw [h.tag] at ht;cases ht;exact hT)),fun x=>?_⟩
 have h3:=h2 x
 cases hl:lookT l x with
 |none=>rw [hl] at h3;exact h3
 |some t =>
  rw [hl] at h3
  obtain ⟨cs,h4,h5,h6⟩:=h3
  exact ⟨cs,h4,h5,h6.step hs⟩
theorem Step.of_grown {w w':World} {ρ:Ghost} {b:Nat} {t:Tag} (hg:w.grownBy w' (some b)) (ht:ρ b=some t):Step (· =t) w ρ w' ρ where
 os:=hg.os
 tape:=hg.tape
 output:=hg.output
 size:=hg.size
 ghost:=fun _ _=>rfl
 block:=fun k hk hn=>hg.block k hk (fun e=>by cases e;exact hn t ht rfl)
 fresh:=fun hf k hk=>hf k (Nat.le_trans hg.size hk)
theorem MapR.made (w:World) (ρ:Ghost):MapR (w.alloc (.map #[] 0)) (ρ.put w.heap.size (31,2)) w.heap.size []:=by
 refine ⟨Ghost.put_same _ _ _, .map [],World.ownsMap_made _ _ _ _,fun x=>?_⟩
 have:lookT [] x=none:=rfl
 rw [this]
 rfl
theorem MapR.put {w w':World} {ρ:Ghost} {b:Nat} {l:List (Int × Ty)} (h:MapR w ρ b l) {D:DataW Value} (hD:∀ x,match lookT l x with
 |none=>Maps.has D (.int .i64 x)=false
 |some t=>∃ cs,Maps.has D (.int .i64 x)=true∧(∀ z,D.atKey (.int .i64 x) z= .held (.agg cs.toArray))∧TyE w ρ t cs) (h0:w.ownsMap Try.prog 3 tyHeld b l.length D) {v:Int} {t:Ty} {cs:List Value} (ht:TyE w ρ t cs) (hw:w'.ownsMap Try.prog 3 tyHeld b (l.length+1) (D.put (.int .i64 v) (.held (.agg cs.toArray)))) (hg:w.grownBy w' (some b)) :
 MapR w' ρ b ((v,t) :: l):=by
 have hs:=Step.of_grown hg h.tag
 have hm:Maps.IsMap D:=h0.isMap
 have hk:WideAt.IsKeyLit (.int .i64 v):=by simp [WideAt.IsKeyLit]
 refine ⟨h.tag,_,hw,fun x=>?_⟩
 rw [lookT_cons]
 by_cases hx:v=x
 ·subst hx
  rw [if_pos rfl]
  exact ⟨cs,Maps.has_put_same hm hk _,fun z=>Maps.atKey_put_same hm hk _ z,ht.step hs⟩
 ·rw [if_neg hx]
  have hne:(Lit.int .i64 x)≠(Lit.int .i64 v):=fun e=>hx (by cases e;rfl)
  have h3:=hD x
  cases hl:lookT l x with
  |none =>
   rw [hl] at h3
   show Maps.has _ _=false
   rw [Maps.has_put_other hne]
   exact h3
  |some t' =>
   rw [hl] at h3
   obtain ⟨cs',h4,h5,h6⟩:=h3
   exact ⟨cs',by rw [Maps.has_put_other hne];exact h4,fun z=>by rw [Maps.atKey_put_other hne];exact h5 z,h6.step hs⟩
structure CkR (F:Ty→Prop) (w:World) (ρ:Ghost) (C:Nat) (hd:List Value) (mb:Nat) (c:CS) (big:Bool):Prop where
 blk:∃ sv,Blk w C 55 (hd++[sv, .map (some mb), .bool big])∧OwnSl w ρ (31,1) 3 1 sv c.seen.length (c.seen.map (.int .i64 ·))
 hdl:hd.length=23
 tag:ρ C=some (31,0)
 map:MapR w ρ mb c.bound
 ok:c.Ok F
def CkT:Tag→Prop:=fun t=>t=(31,0)∨t=(31,1)∨t=(31,2)
section
variable {F:Ty→Prop}
include F
theorem CkR.lt {w:World} {ρ:Ghost} {C:Nat} {hd:List Value} {mb:Nat} {c:CS} {big:Bool} (h:CkR F w ρ C hd mb c big):C<w.heap.size:=by
 obtain ⟨_,h1,_⟩:=h.blk
 exact h1.lt
theorem CkR.step {T:Tag→Prop} {w w':World} {ρ ρ':Ghost} {C:Nat} {hd:List Value} {mb:Nat} {c:CS} {big:Bool} (h:CkR F w ρ C hd mb c big) (hs:Step T w ρ w' ρ') (hT:∀ t,CkT t→¬T t):CkR F w' ρ' C hd mb c big:=by
 obtain ⟨sv,h1,h2⟩:=h.blk
 exact ⟨⟨sv,hs.blk' h1 h.tag (hT _ (.inl rfl)),h2.step hs (hT _ (.inr (.inl rfl)))⟩,h.hdl,hs.tag h.lt h.tag,h.map.step hs (hT _ (.inr (.inr rfl))),h.ok⟩
section
variable {w:World} {ρ:Ghost} {C:Nat} {hd:List Value} {mb:Nat} {c:CS} {big:Bool} (h:CkR F w ρ C hd mb c big)
include w ρ C hd mb c big h
theorem CkR.cell {i:Nat} {v:Value} (hi:hd[i]? =some v):w.cell? ⟨C,i,none⟩=some v:=by
 obtain ⟨sv,h1,_⟩:=h.blk
 refine h1.cell ?_
 rw [List.getElem?_append_left (List.getElem?_eq_some_iff.1 hi).1]
 exact hi
theorem CkR.form :
 ∃ A cp,w.cell? ⟨C,23,none⟩=some (.slice A c.seen.length cp)∧w.cell? ⟨C,24,none⟩=some (.map (some mb))∧w.cell? ⟨C,25,none⟩=some (.bool big)∧OwnSl w ρ (31,1) 3 1 (.slice A c.seen.length cp) c.seen.length (c.seen.map (.int .i64 ·))∧c.seen.length≤cp ∧
  (∀ i,w.frozen? ⟨C,i,none⟩=false)∧Blk w C 55 (hd++[.slice A c.seen.length cp, .map (some mb), .bool big]):=by
 obtain ⟨sv,h1,h2⟩:=h.blk
 obtain ⟨A,cp,rfl,h3,_⟩:=h2.form
 have h4:=h.hdl
 refine ⟨A,cp,h1.cell ?_,h1.cell ?_,h1.cell ?_,h2,h3,h1.free,h1⟩
 ·rw [List.getElem?_append_right (by omega),h4];rfl
 ·rw [List.getElem?_append_right (by omega),h4];rfl
 ·rw [List.getElem?_append_right (by omega),h4];rfl
end
end
theorem CkR.seen_put {w:World} {C:Nat} {hd:List Value} (hl:hd.length=23) {sv u sv':Value} {big:Value} (h:Blk w C 55 (hd++[sv,u,big])):Blk (w.setCell ⟨C,23,none⟩ sv') C 55 (hd++[sv',u,big]):=by
 have h1:=h.setCell 23 sv'
 rw [List.set_append_right _ _ (by omega),hl] at h1
 exact h1
end
section
open Go Go.RowKit
theorem slice_oneT (w:World) (b o n c k:Nat) (hk:k<c) (k1:Int) (hk1:k1=(k:Int)+1) :
 (Instr.slice 41 (.slice (some ⟨b,o,none⟩) n c) (some (.int .i64 k)) (some (.int .i64 k1)) none).run Try.prog w= .ok (.slice (some ⟨b,o+k*7,none⟩) 1 (c-k)) w:=by
 subst hk1
 have hsz:∀ w,(sizeOf (Try.prog.elem 41)).run Try.prog w= .ok 7 w:=fun _=>by kernel_rfl
 have hadd:(⟨b,o,none⟩:Addr).add (k*7)=⟨b,o+k*7,none⟩:=by unfold Addr.add;split <;> simp_all
 rw [run_slice_lh w 41 _ n c (by kernel_rfl) .i64 .i64 k ((k:Int)+1) (by omega) (by omega) (by omega),hsz]
 have e1:((k:Int)).toNat=k:=by omega
 have e2:((k:Int)+1).toNat=k+1:=by omega
 simp only [Result.andThen_ok,sliced,e1,e2]
 rw [if_neg (by omega),Option.map_some,hadd,show k+1-k=1 by omega]
theorem SlR.oneAt {α:Type} {w:World} {ρ:Ghost} {sz byt:Nat} {R:α→List Value→Prop} {b o n c:Nat} {l:List α} (h:SlR w ρ sz byt R (.slice (some ⟨b,o,none⟩) n c) l) {k:Nat} {x:α} (hk:l[k]? =some x) :
 SlR w ρ sz byt R (.slice (some ⟨b,o+k*sz,none⟩) 1 (c-k)) [x]∧k<c:=by
 obtain ⟨A',c',hv,h2,h3,_⟩:=h.out
 cases hv
 have hlt:=(List.getElem?_eq_some_iff.1 hk).1
 have h1:=h.sub k (k+1) c (by omega) (by omega) (by omega) (by omega)
 have hadd:(⟨b,o,none⟩:Addr).add (k*sz)=⟨b,o+k*sz,none⟩:=by unfold Addr.add;split <;> simp_all
 have e1:(l.take (k+1)).drop k=[x]:=by
  apply List.ext_getElem?
  intro i
  rw [List.getElem?_drop,List.getElem?_take]
  cases i with
  |zero=>rw [if_pos (by omega),Nat.add_zero,hk];rfl
  |succ i=>rw [if_neg (by omega)];rfl
 rw [if_neg (by omega),Option.map_some,hadd,show k+1-k=1 by omega,e1] at h1
 exact ⟨h1,by omega⟩
theorem sameAtL_len:∀ (ag a b:List Ty),a.length≠b.length→sameAtL ag a b=false
 |_,[],[],h=>absurd rfl h
 |_,[],_ :: _,_=>by rw [sameAtL] <;> simp
 |_,_ :: _,[],_=>by rw [sameAtL] <;> simp
 |ag,a :: l,b :: m,h=>by
  rw [sameAtL,sameAtL_len ag l m (by simpa using h),Bool.and_false]
theorem sameAtL_drop {ag a b:List Ty} {k:Nat} {x y:Ty} (ha:a[k]? =some x) (hb:b[k]? =some y):sameAtL ag (a.drop k) (b.drop k)=(sameAt1 ag x y && sameAtL ag (a.drop (k+1)) (b.drop (k+1))):=by
 rw [drop_cons ha,drop_cons hb,sameAtL]
theorem sameAt1_var {ag:List Ty} {x y a:Ty} {n:Nat} (h3:x.kind=3) (hn:x.n=n) (ha:ag[n]? =some a):sameAt1 ag x y=sameL [a] [y]:=by
 cases x with
 |mk k n' _ args _ _ =>
  simp only [Ty.kind] at h3
  simp only [Ty.n] at hn
  subst h3
  subst hn
  rw [sameAt1,if_pos rfl]
  simp only [atVar,Int.toNat_natCast,ha]
  rw [sameL,sameL]
  simp
theorem sameAt1_eq {ag:List Ty} {x:Ty} (y:Ty) (h3:¬x.kind=3):sameAt1 ag x y=(decide (x.kind=y.kind) && decide (x.n=y.n) && sameAtL ag x.args y.args):=by
 cases x with
 |mk k n' _ args _ _ =>
  simp only [Ty.kind] at h3
  rw [sameAt1,if_neg h3]
  rfl
theorem formedL_get {ds:List Dat} {vars:Int}:∀ {l:List Ty} {k:Nat} {t:Ty},formedL ds vars l=true→l[k]? =some t→formed1 ds vars t=true
 |[],k,t,_,h=>by simp at h
 |x :: l,0,t,h,hk=>by
  rw [formedL,Bool.and_eq_true] at h
  simp only [List.getElem?_cons_zero,Option.some.injEq] at hk
  rw [←hk]
  exact h.1
 |x :: l,k+1,t,h,hk=>by
  rw [formedL,Bool.and_eq_true] at h
  exact formedL_get h.2 hk
section
variable {ds:List Dat} {vars:Int} {t:Ty} (h:formed1 ds vars t=true)
include ds vars t h
theorem formed1_args:formedL ds vars t.args=true:=by
 rw [formed1_eq] at h
 split at h
 ·cases h
 ·simp only [Bool.and_eq_true] at h
  exact h.2
theorem formed1_var (h3:t.kind=3):0≤t.n∧t.n<vars:=by
 rw [formed1_eq,h3] at h
 unfold manyOf at h
 simp only [show ¬((3:Int)=0∨(3:Int)=1∨(3:Int)=2) by omega,if_false,if_true] at h
 by_cases hc:t.n<0∨vars≤t.n
 ·rw [if_pos hc] at h
  cases h
 ·omega
end
theorem SlR.some_of {α:Type} {w:World} {ρ:Ghost} {sz byt:Nat} {R:α→List Value→Prop} {A:Option Addr} {n c:Nat} {l:List α} (h:SlR w ρ sz byt R (.slice A n c) l) {k:Nat} {x:α} (hk:l[k]? =some x):∃ b o,∃ (_:True),A=some ⟨b,o,none⟩∧b<w.heap.size:=by
 obtain ⟨A',c',hv,_,_,_,h5⟩:=h.out
 cases hv
 obtain ⟨b,o,_,h1,_,h2,_⟩:=h5 k x hk
 exact ⟨b,o,trivial,h1,h2⟩
theorem sameAt_any (n:Nat):∀ (n2 n3:Nat) (w:World) (ρ:Ghost) (ds:List Dat) (l ag want:List Ty) (A B C:Option Addr) (ca cb cc:Nat),TysR w ρ n (.slice A l.length ca) l→TysR w ρ n3 (.slice B ag.length cb) ag→TysR w ρ n2 (.slice C want.length cc) want→formedL ds ag.length l=true →
 Calls Try.prog 52 #[.slice A l.length ca, .slice B ag.length cb, .slice C want.length cc] w fun e w'=>e= .returned (.bool (sameAtL ag l want))∧Below w.heap.size w w':=by
 induction n using Nat.strongRecOn with
 |ind n ih =>
  intro n2 n3 w ρ ds l ag want A B C ca cb cc hA hB hC hF
  obtain ⟨A',c',hv,hlc,hcm⟩:=SlR.form hA
  cases hv
  obtain ⟨B',d',hv,hld,hdm⟩:=SlR.form hB
  cases hv
  have hlen:l.length≤9223372036854775807:=by unfold maxLen at hcm;omega
  have hleb:ag.length≤9223372036854775807:=by unfold maxLen at hdm;omega
  have HA:=Hd.mk hA
  have HB:=Hd.mk hB
  have HC:=Hd.mk hC
  have HF:=Hd.mk hF
  have HIH:=Hd.mk ih
  obtain ⟨r,hr⟩:∃ z,sameAtL ag l want=z:=⟨_,rfl⟩
  rw [hr]
  have HR:=Hd.mk hr
  clear hA hB hC hF ih hlc hcm hld hdm hr
  by_cases hne:l.length=want.length
  ·have HL:=Hd.mk hne
   have hnei:((l.length:Nat):Int)=((want.length:Nat):Int):=by omega
   clear hne
   go_enter Try.func52,Try.ntmps52
   go_wp2_with fail
   go_loopw [17] (fun vk wr=>∃ (k:Nat),vk= .int .i64 k∧k≤l.length∧sameAtL ag l want=sameAtL ag (l.drop k) (want.drop k)∧Step (fun _=>False) w ρ wr ρ) (fun v _=>l.length-(intOf v).toNat)
   case atStart=>exact ⟨0,by simp,by omega,by simp,Step.refl _ _ _⟩
   case round =>
    obtain ⟨k,rfl,hk,he,hS⟩:=hrel
    have HE0:=Hd.mk he
    have HS:=Hd.mk hS
    clear he hS
    by_cases hlt:k<l.length
    ·have hltw:k<want.length:=by have:=HL.out;omega
     have hlti:(k:Int)<l.length:=by omega
     have hltwi:(k:Int)<want.length:=by omega
     have hkz:(0:Int)≤k:=by omega
     obtain ⟨b1,o1,m1,A0,c0,A1,c1,A2,c2,hA1,hm1,hR1,hTa,hcA⟩:=(HA.out.step HS.out).elemC (List.getElem?_eq_getElem hlt)
     have hdr:=sameAtL_drop (ag:=ag) (List.getElem?_eq_getElem hlt) (List.getElem?_eq_getElem hltw)
     have hFT:=formedL_get HF.out (List.getElem?_eq_getElem hlt)
     subst hA1
     generalize l[k]=t at *
     have HE:=Hd.mk (HE0.out.trans hdr)
     have HFT:=Hd.mk hFT
     have HTA0:=Hd.mk hTa
     clear hR1 hTa hdr hFT HE0 hnei
     obtain ⟨b2,o2,_,hA2,_⟩:=HC.out.some_of (List.getElem?_eq_getElem hltw)
     subst hA2
     have hin:(Try.prog.info? 43).map (·.size)=some 7:=by kernel_rfl
     generalize hcs:tyCells t _ _ _=cs at hcA
     have hcl:cs.length=7:=by rw [←hcs];rfl
     have hone:cs.toArray.all (·.oneCell')=true:=by rw [←hcs];exact tyCells_one ..
     have hin2:(Try.prog.info? 43).map (·.size)=some cs.length:=by rw [hcl];exact hin
     have HSZ:Hd (cs.toArray.size=7):=⟨by rw [List.size_toArray,hcl]⟩
     have HCC:Hd (wr.rangeAt b1 (o1+k*7) cs):=⟨hcA⟩
     have HIN:=Hd.mk hin2
     have HON:=Hd.mk hone
     have HAA:=Hd.mk ((Step.refl (fun _=>False) wr ρ).alloc (.cells cs.toArray 43))
     have XS0:=Hd.mk (Blk.new' wr cs.toArray 43)
     have HCS:=Hd.mk hcs
     clear hcA hin hone hcs hin2 hcl
     go_wp2_with (first|(refine wpList_load_mid rfl 43 _ rfl b1 (o1+k*7) rfl cs _ HCC.out Try.underlying43 rfl HIN.out ?_)|(refine wpList_store_newV rfl 43 _ _ rfl _ cs.toArray rfl rfl (by rw [List.size_toArray];exact HIN.out) (by exact (Eq.trans rfl HSZ.out.symm)) HON.out ?_))
     refine ⟨?_⟩
     generalize wr.alloc (.cells cs.toArray 43)=W1 at *
     generalize wr.heap.size=X1 at *
     have xs0:Blk W1 X1 43 cs:=XS0.out
     rw [←HCS.out] at xs0
     have XSA:=Hd.mk xs0
     clear xs0 XS0 HCS HON HIN HCC HSZ
     obtain ⟨b2',o2',m2,B0,q0,B1,q1,B2,q2,hA2,hm2,hR2,hUa,hcB⟩:=(HC.out.step (HS.out.trans HAA.out)).elemC (List.getElem?_eq_getElem hltw)
     cases hA2
     have hgu:=List.getElem?_eq_getElem hltw
     generalize want[k]=u at *
     have HGU:=Hd.mk hgu
     clear hgu
     have HUA:=Hd.mk hUa
     clear hR2 hUa
     have hin:(Try.prog.info? 43).map (·.size)=some 7:=by kernel_rfl
     generalize hcs:tyCells u _ _ _=cs at hcB
     have hcl:cs.length=7:=by rw [←hcs];rfl
     have hone:cs.toArray.all (·.oneCell')=true:=by rw [←hcs];exact tyCells_one ..
     have hin2:(Try.prog.info? 43).map (·.size)=some cs.length:=by rw [hcl];exact hin
     have HSZ:Hd (cs.toArray.size=7):=⟨by rw [List.size_toArray,hcl]⟩
     have HCC:Hd (W1.rangeAt b2 (o2+k*7) cs):=⟨hcB⟩
     have HIN:=Hd.mk hin2
     have HON:=Hd.mk hone
     have HAB:=Hd.mk ((Step.refl (fun _=>False) W1 ρ).alloc (.cells cs.toArray 43))
     have XS0:=Hd.mk (Blk.new' W1 cs.toArray 43)
     have HCS:=Hd.mk hcs
     clear hcB hin hone hcs hin2 hcl
     go_wp2_with (first|(refine wpList_load_mid rfl 43 _ rfl b2 (o2+k*7) rfl cs _ HCC.out Try.underlying43 rfl HIN.out ?_)|(refine wpList_store_newV rfl 43 _ _ rfl _ cs.toArray rfl rfl (by rw [List.size_toArray];exact HIN.out) (by exact (Eq.trans rfl HSZ.out.symm)) HON.out ?_))
     refine ⟨?_⟩
     generalize W1.alloc (.cells cs.toArray 43)=W2 at *
     generalize W1.heap.size=X2 at *
     have xs0:Blk W2 X2 43 cs:=XS0.out
     rw [←HCS.out] at xs0
     have XSB:=Hd.mk xs0
     clear xs0 XS0 HCS HON HIN HCC HSZ
     have HS2:=Hd.mk (HAA.out.trans HAB.out)
     have HTA:=HTA0
     have XA2:=Hd.mk (HAB.out.blk XSA.out (fun _ _ h=>h))
     have d0:W2.cell? ⟨X1,0,none⟩=some (.int .i64 t.kind):=XA2.out.cell (i:=0) rfl
     have d1:W2.cell? ⟨X1,1,none⟩=some (.int .i64 t.n):=XA2.out.cell (i:=1) rfl
     have d3:W2.cell? ⟨X1,3,none⟩=some (.slice A0 t.args.length c0):=XA2.out.cell (i:=3) rfl
     have e0:W2.cell? ⟨X2,0,none⟩=some (.int .i64 u.kind):=XSB.out.cell (i:=0) rfl
     have e1:W2.cell? ⟨X2,1,none⟩=some (.int .i64 u.n):=XSB.out.cell (i:=1) rfl
     have e3:W2.cell? ⟨X2,3,none⟩=some (.slice B0 u.args.length q0):=XSB.out.cell (i:=3) rfl
     by_cases hk3:t.kind=3
     ·have hvar:=formed1_var HFT.out hk3
      obtain ⟨nn,hnn⟩:=Int.eq_ofNat_of_zero_le hvar.1
      have hnl:nn<ag.length:=by have:=hvar.2;omega
      have hnl2:(nn:Int)<ag.length:=by omega
      obtain ⟨bB,oB,_,rfl,_⟩:=(HB.out.step (HS.out.trans HS2.out)).some_of (List.getElem?_eq_getElem hnl)
      obtain ⟨hT1,hc1⟩:=(HB.out.step (HS.out.trans HS2.out)).oneAt (List.getElem?_eq_getElem hnl)
      obtain ⟨hT2,hc2⟩:=(HC.out.step (HS.out.trans HS2.out)).oneAt HGU.out
      have hE:=HE.out
      rw [sameAt1_var hk3 hnn (List.getElem?_eq_getElem hnl)] at hE
      generalize ag[nn]=x at *
      rw [hk3] at d0
      rw [hnn] at d1
      have HQ:Hd (∀ m,Calls Try.prog 28 #[.slice (some ⟨bB,oB+nn*7,none⟩) 1 (cb-nn), .slice (some ⟨b2,o2+k*7,none⟩) 1 (cc-k)] (W2.drewN m) fun e w''=>e= .returned (.bool (sameL [x] [u]))∧∃ m,w''=W2.drewN m):=⟨fun m=>by
       have hs:=(Step.refl (fun _=>False) W2 ρ).drewN m
       refine (same_any n3 n2 (W2.drewN m) ρ [x] [u] _ _ _ _ (TysR.step hT1 hs) (TysR.step hT2 hs)).mono ?_
       rintro e w'' ⟨he,hm⟩
       exact ⟨he,((Drawn.refl W2).drewN m).trans hm⟩⟩
      have hsl1:∀ W,(Instr.slice 41 (.slice (some ⟨bB,oB,none⟩) ag.length cb) (some (.int .i64 nn)) (some (.int .i64 ((nn:Int)+1))) none).run Try.prog W= .ok (.slice (some ⟨bB,oB+nn*7,none⟩) 1 (cb-nn)) W:=fun W=>slice_oneT W bB oB ag.length cb nn hc1 _ rfl
      have hsl2:∀ W,(Instr.slice 41 (.slice (some ⟨b2,o2,none⟩) want.length cc) (some (.int .i64 k)) (some (.int .i64 ((k:Int)+1))) none).run Try.prog W= .ok (.slice (some ⟨b2,o2+k*7,none⟩) 1 (cc-k)) W:=fun W=>slice_oneT W b2 o2 want.length cc k hc2 _ rfl
      have ew1:IntKind.i64.wrap ((nn:Int)+1)=(nn:Int)+1:=IntWalk.i64_in _ (by omega)
      have ew2:IntKind.i64.wrap ((k:Int)+1)=(k:Int)+1:=IntWalk.i64_in _ (by omega)
      have hn0:(0:Int)≤nn:=by omega
      have hk0:(0:Int)≤k:=by omega
      have hcb1:(nn:Int)+1≤cb:=by omega
      have hcc1:(k:Int)+1≤cc:=by omega
      have hnl3:(nn:Int)≤(nn:Int)+1:=by omega
      have hkl3:(k:Int)≤(k:Int)+1:=by omega
      obtain ⟨z,hz⟩:∃ z,sameL [x] [u]=z:=⟨_,rfl⟩
      rw [hz] at HQ hE
      clear hz hvar hT1 hT2 hk3 hnn d3 e0 e1 e3
      go_wp2_with fail
      go_quiet ((go_at_call 28;exact HQ.out _))
      have HS4:=Hd.mk (HS2.out.drewN nq)
      generalize W2.drewN nq=W4 at *
      clear d0 d1 hsl1 hsl2 ew1 ew2 hcb1 hcc1 hnl3 hkl3
      cases z with
      |true =>
       simp only [Bool.and_true,Bool.true_and,decide_true] at hE
       have HE2:=Hd.mk hE
       clear hE
       go_wp2
       go_roundw
       case rel=>exact ⟨k+1,by go_num,by omega,HE2.out,HS.out.trans HS4.out⟩
       case measure=>simp [intOf];omega
      |false =>
       simp only [Bool.and_false,Bool.false_and,decide_true] at hE
       have HE2:=Hd.mk hE
       clear hE
       go_wp2
       go_ret
       exact ⟨by rw [←HR.out,HE2.out];rfl,(HS.out.trans HS4.out).toBelow⟩
     ·have hkb3:(t.kind == 3)=false:=by simpa using hk3
      have hE:=HE.out
      rw [sameAt1_eq u hk3] at hE
      have HREC:=Hd.mk (HIH.out m1 (by omega) m2 n3 W2 ρ ds t.args ag u.args A0 B B0 c0 cb q0 (HTA.out.step HS2.out) (HB.out.step (HS.out.trans HS2.out)) (HUA.out.step HAB.out) (formed1_args HFT.out))
      obtain ⟨z,hz⟩:∃ z,sameAtL ag t.args u.args=z:=⟨_,rfl⟩
      rw [hz] at HREC hE
      clear hz
      have HK3:=Hd.mk hk3
      generalize t.kind=y0 at *
      generalize u.kind=z0 at *
      generalize t.n=y1 at *
      generalize u.n=z1 at *
      by_cases h0:y0=z0
      ·subst h0
       by_cases h1:y1=z1
       ·subst h1
        clear hkb3
        have hk3:=HK3.out
        go_wp2_with fail
        refine HREC.out.mono ?_
        rintro e W4 ⟨rfl,hb⟩
        have HS4:=Hd.mk (HS2.out.of_below hb)
        clear hb HREC d0 d1 d3 e0 e1 e3 hk3
        cases z with
        |true =>
         simp only [Bool.and_true,Bool.true_and,decide_true] at hE
         have HE2:=Hd.mk hE
         clear hE
         go_wp2
         go_roundw
         case rel=>exact ⟨k+1,by go_num,by omega,HE2.out,HS.out.trans HS4.out⟩
         case measure=>simp [intOf];omega
        |false =>
         simp only [Bool.and_false,Bool.false_and,decide_true] at hE
         have HE2:=Hd.mk hE
         clear hE
         go_wp2
         go_ret
         exact ⟨by rw [←HR.out,HE2.out];rfl,(HS.out.trans HS4.out).toBelow⟩
       ·have hb1:(y1 == z1)=false:=by simpa using h1
        have hb2:(y1 != z1)=true:=by simpa using h1
        simp only [h1,decide_true,decide_false,Bool.false_and,Bool.and_false,Bool.true_and] at hE
        have HE2:=Hd.mk hE
        clear hE
        go_wp2
        go_ret
        exact ⟨by rw [←HR.out,HE2.out];rfl,(HS.out.trans HS2.out).toBelow⟩
      ·have hb0:(y0 == z0)=false:=by simpa using h0
       have hb2:(y0 != z0)=true:=by simpa using h0
       simp only [h0,decide_true,decide_false,Bool.false_and,Bool.and_false,Bool.true_and] at hE
       have HE2:=Hd.mk hE
       clear hE
       go_wp2
       go_ret
       exact ⟨by rw [←HR.out,HE2.out];rfl,(HS.out.trans HS2.out).toBelow⟩
    ·have hke:k=l.length:=by omega
     subst hke
     have hE:=HE0.out
     have hbl:want.drop l.length=[]:=by rw [HL.out];exact List.drop_length
     rw [List.drop_length,hbl,sameAtL] at hE
     have HE2:=Hd.mk hE
     have hnl:¬l.length<want.length:=by have:=HL.out;omega
     have hnl2:decide (l.length<want.length)=false:=by simpa using hnl
     clear hE hnei hbl
     go_wp2
     go_ret
     exact ⟨by rw [←HR.out,HE2.out];rfl,HS.out.toBelow⟩
  ·have hnei:¬((l.length:Nat):Int)=((want.length:Nat):Int):=by omega
   have hneb:(((l.length:Nat):Int) == ((want.length:Nat):Int))=false:=by simpa using hnei
   have hF:=sameAtL_len ag l want hne
   have HF:=Hd.mk hF
   have hr:=HR.out
   rw [hF] at hr
   subst hr
   clear hne hF
   go_enter Try.func52,Try.ntmps52
   go_wp2
   go_ret
   exact ⟨rfl,Below.refl _ _⟩
end
end Go.Proofs.Ytadffbgbndibpaa
