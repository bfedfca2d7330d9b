/- GaB: lemmas and walks of the claim. -/
import Derived.Test.YtadffbgbndibpaaKGaF
set_option linter.unusedVariables false
set_option linter.unusedSimpArgs false
set_option maxHeartbeats 16000000
set_option maxRecDepth 100000
namespace Go.Proofs.Ytadffbgbndibpaa
open Go Go.RowKit
theorem kindNil (k:Int) (hk:I64 k) (w:World) (ρ:Ghost) (n:Nat):TyR w ρ (n+1) (kindT k []) (tyCells (kindT k []) (.slice none 0 0) (.slice none 0 0) (.slice none 0 0)) :=
 ⟨_,_,_,rfl,hk,(⟨by decide,by decide⟩:I64 0),(⟨by decide,by decide⟩:I64 0),Nat.zero_le _,SlR.nil _ _ _ _ _,SlR.nil _ _ _ _ _,SlR.nil _ _ _ _ _⟩
structure TyW (w:World) (ρ:Ghost) (cs:List Value) (sl:Value) (X5 X7 X8 X9 X10:Nat) (W:World):Prop where
 sz:W.heap.size=X10
 step:Step (fun _=>False) w ρ W ρ
 b4:Blk W w.heap.size 94 cs
 b5:Blk W X5 41 [sl]
 b7:Blk W X7 43 (tyCells intT (.slice none 0 0) (.slice none 0 0) (.slice none 0 0))
 b8:Blk W X8 43 (tyCells boolT (.slice none 0 0) (.slice none 0 0) (.slice none 0 0))
 b9:Blk W X9 43 (tyCells unitT (.slice none 0 0) (.slice none 0 0) (.slice none 0 0))
theorem typed_world (w:World) (ρ:Ghost) (cs:List Value) (G:Option Addr) (gl cg:Nat) :
 TyW w ρ cs (.slice G gl cg) (w.heap.size+1) (w.heap.size+1+1) (w.heap.size+1+1+1) (w.heap.size+1+1+1+1) (w.heap.size+1+1+1+1+1) (((((w.alloc (.cells cs.toArray 94)).alloc (.cells #[.slice G gl cg] 41)).alloc (.cells #[.int .i64 0, .int .i64 0, .string ⟨#[]⟩, .slice none 0 0, .int .i64 0, .slice none 0 0, .slice none 0 0] 43)).alloc (.cells #[.int .i64 1, .int .i64 0, .string ⟨#[]⟩, .slice none 0 0, .int .i64 0, .slice none 0 0, .slice none 0 0] 43)).alloc (.cells #[.int .i64 2, .int .i64 0, .string ⟨#[]⟩, .slice none 0 0, .int .i64 0, .slice none 0 0, .slice none 0 0] 43)):=by
 have b1:=Blk.new w cs 94
 have s1:=size_alloc w (.cells cs.toArray 94)
 have t1:=(Step.refl (fun _=>False) w ρ).alloc (.cells cs.toArray 94)
 generalize w.alloc (.cells cs.toArray 94)=W1 at *
 have b2:=Blk.newAt s1 [.slice G gl cg] 41
 have s2:=size_alloc W1 (.cells #[.slice G gl cg] 41)
 have t2:=t1.alloc (.cells #[.slice G gl cg] 41)
 have c1:=b1.alloc (.cells #[.slice G gl cg] 41)
 rw [s1] at s2
 have e2:[Value.slice G gl cg].toArray= #[.slice G gl cg]:=rfl
 rw [e2] at b2
 generalize W1.alloc (.cells #[.slice G gl cg] 41)=W2 at *
 have b3:=Blk.newAt s2 [.int .i64 0, .int .i64 0, .string ⟨#[]⟩, .slice none 0 0, .int .i64 0, .slice none 0 0, .slice none 0 0] 43
 have s3:=size_alloc W2 (.cells #[.int .i64 0, .int .i64 0, .string ⟨#[]⟩, .slice none 0 0, .int .i64 0, .slice none 0 0, .slice none 0 0] 43)
 have t3:=t2.alloc (.cells #[.int .i64 0, .int .i64 0, .string ⟨#[]⟩, .slice none 0 0, .int .i64 0, .slice none 0 0, .slice none 0 0] 43)
 have d1:=c1.alloc (.cells #[.int .i64 0, .int .i64 0, .string ⟨#[]⟩, .slice none 0 0, .int .i64 0, .slice none 0 0, .slice none 0 0] 43)
 have d2:=b2.alloc (.cells #[.int .i64 0, .int .i64 0, .string ⟨#[]⟩, .slice none 0 0, .int .i64 0, .slice none 0 0, .slice none 0 0] 43)
 rw [s2] at s3
 rw [show ([.int .i64 0, .int .i64 0, .string ⟨#[]⟩, .slice none 0 0, .int .i64 0, .slice none 0 0, .slice none 0 0]:List Value).toArray= #[.int .i64 0, .int .i64 0, .string ⟨#[]⟩, .slice none 0 0, .int .i64 0, .slice none 0 0, .slice none 0 0] from rfl] at b3
 generalize W2.alloc (.cells #[.int .i64 0, .int .i64 0, .string ⟨#[]⟩, .slice none 0 0, .int .i64 0, .slice none 0 0, .slice none 0 0] 43)=W3 at *
 have b4:=Blk.newAt s3 [.int .i64 1, .int .i64 0, .string ⟨#[]⟩, .slice none 0 0, .int .i64 0, .slice none 0 0, .slice none 0 0] 43
 have s4:=size_alloc W3 (.cells #[.int .i64 1, .int .i64 0, .string ⟨#[]⟩, .slice none 0 0, .int .i64 0, .slice none 0 0, .slice none 0 0] 43)
 have t4:=t3.alloc (.cells #[.int .i64 1, .int .i64 0, .string ⟨#[]⟩, .slice none 0 0, .int .i64 0, .slice none 0 0, .slice none 0 0] 43)
 have e1:=d1.alloc (.cells #[.int .i64 1, .int .i64 0, .string ⟨#[]⟩, .slice none 0 0, .int .i64 0, .slice none 0 0, .slice none 0 0] 43)
 have e2:=d2.alloc (.cells #[.int .i64 1, .int .i64 0, .string ⟨#[]⟩, .slice none 0 0, .int .i64 0, .slice none 0 0, .slice none 0 0] 43)
 have e3:=b3.alloc (.cells #[.int .i64 1, .int .i64 0, .string ⟨#[]⟩, .slice none 0 0, .int .i64 0, .slice none 0 0, .slice none 0 0] 43)
 rw [s3] at s4
 rw [show ([.int .i64 1, .int .i64 0, .string ⟨#[]⟩, .slice none 0 0, .int .i64 0, .slice none 0 0, .slice none 0 0]:List Value).toArray= #[.int .i64 1, .int .i64 0, .string ⟨#[]⟩, .slice none 0 0, .int .i64 0, .slice none 0 0, .slice none 0 0] from rfl] at b4
 generalize W3.alloc (.cells #[.int .i64 1, .int .i64 0, .string ⟨#[]⟩, .slice none 0 0, .int .i64 0, .slice none 0 0, .slice none 0 0] 43)=W4 at *
 exact ⟨by rw [size_alloc,s4],t4.alloc _,e1.alloc _,e2.alloc _,e3.alloc _,b4.alloc _,Blk.newAt s4 _ _⟩
section
variable {p:Pg} {s:St} {ag:List Ty}
include p s ag
theorem typedC_11 (h:s.op=11) {b:Ty} (hl:ag.length=2) (hb:ag[1]? =some b):typedC p s ag=asked s ag unitT [kindT 7 [b],b]:=by
 match ag,hl,hb with
 |[a,b'],_,hb =>
  simp only [List.getElem?_cons_succ,List.getElem?_cons_zero,Option.some.injEq] at hb
  subst hb
  unfold typedC
  simp [h]
theorem typedC_11n (h:s.op=11) (hl:¬ag.length=2):typedC p s ag=false:=by
 unfold typedC
 simp only [h]
 match ag,hl with
 |[],_=>simp
 |[_],_=>simp
 |[a,b],hl=>exact absurd rfl hl
 |_ :: _ :: _ :: _,_=>simp
theorem typedC_12 (h:s.op=12) {t:Ty} (hk:s.ty.kind=8) (ht:s.ty.args[0]? =some t):typedC p s ag=asked s ag s.ty [intT,t]:=by
 unfold typedC
 cases hs:s.ty.args with
 |nil=>rw [hs] at ht;simp at ht
 |cons x l =>
  rw [hs] at ht
  simp only [List.getElem?_cons_zero,Option.some.injEq] at ht
  subst ht
  simp [h,hk]
theorem typedC_12n (h:s.op=12) (hk:¬s.ty.kind=8):typedC p s ag=false:=by
 unfold typedC
 simp [h,hk]
theorem typedC_16 (h:s.op=16):typedC p s ag=(decide (0≤s.code) && decide (s.code<p.exns.length) && asked s ag s.ty [intT]):=by
 unfold typedC
 simp [h]
theorem typedC_4 (h:s.op=4):typedC p s ag=(decide (s.ty.kind=5) && sameL ag s.ty.args):=by
 unfold typedC
 simp [h]
theorem typedC_9 (h:s.op=9):typedC p s ag=(decide (s.ty.kind=7) && sameL ag s.ty.args):=by
 unfold typedC
 simp [h]
theorem typedC_8 (h:s.op=8) {a b:Ty} (hl:ag.length=2) (ha:ag[0]? =some a) (hb:ag[1]? =some b):typedC p s ag=(decide (a.kind=6) && sameL a.args [b,s.ty]):=by
 match ag,hl,ha,hb with
 |[a',b'],_,ha,hb =>
  simp only [List.getElem?_cons_succ,List.getElem?_cons_zero,Option.some.injEq] at ha hb
  subst ha hb
  unfold typedC
  simp [h]
theorem typedC_8n (h:s.op=8) (hl:¬ag.length=2):typedC p s ag=false:=by
 unfold typedC
 simp only [h]
 match ag,hl with
 |[],_=>simp
 |[_],_=>simp
 |[a,b],hl=>exact absurd rfl hl
 |_ :: _ :: _ :: _,_=>simp
theorem typedC_5 (h:s.op=5) {a:Ty} (hl:ag.length=1) (ha:ag[0]? =some a):typedC p s ag=(decide (a.kind=5) && decide (0≤s.int) && (a.args[s.int.toNat]?).elim false fun t=>sameL [s.ty] [t]):=by
 match ag,hl,ha with
 |[a'],_,ha =>
  simp only [List.getElem?_cons_zero,Option.some.injEq] at ha
  subst ha
  unfold typedC
  simp [h]
theorem typedC_5n (h:s.op=5) (hl:¬ag.length=1):typedC p s ag=false:=by
 unfold typedC
 simp only [h]
 match ag,hl with
 |[],_=>simp
 |[_],hl=>exact absurd rfl hl
 |_ :: _ :: _,_=>simp
theorem typedC_3 (h:s.op=3):typedC p s ag=(decide (s.ty.kind=4) && decide (0≤s.code) && ((consOf p s.ty.n)[s.code.toNat]?).elim false fun c=>sameAtL s.ty.args c.fields ag):=by
 unfold typedC
 simp [h]
theorem typedC_6 (h:s.op=6):typedC p s ag=calledC p s ag:=by
 unfold typedC
 simp [h]
end
theorem typed_B (F:Ty→Prop) (w:World) (ρ:Ghost) (n:Nat) (p:Pg) (ty:Int) (nd:Nat) (C:Nat) (hd:List Value) (mb:Nat) (c:CS) (bg:Bool) (s:St) (S0 S1 S2 S3 S4 S5 S6 S7 S8 S9:Option Addr) (s0 s1 s2 s3 s4 s5 s6 s7 s8 s9:Nat) (ag:List Ty) (G:Option Addr) (cg q:Nat) (hC:CkR F w ρ C hd mb c bg) (hK:CkS w ρ p ty nd hd) (hV:StV w ρ n s (.slice S0 s.ty.args.length s0) (.slice S1 s.ty.eff.regs.length s1) (.slice S2 s.ty.eff.vars.length s2) (.slice S3 s.args.length s3) (.slice S4 s.types.length s4) (.slice S5 s.effs.length s5) (.slice S6 s.regs.length s6) (.slice S7 s.modes.length s7) (.slice S8 s.keep.length s8) (.slice S9 s.blocks.length s9)) (hG:TysR w ρ q (.slice G ag.length cg) ag) (hfr:Fresh w ρ) (hP:HdP p) (hF:formed1 p.datas ty s.ty=true) (hop:s.op=0∨s.op=1∨s.op=2∨s.op=18∨s.op=24∨s.op=25∨s.op=19∨s.op=20∨s.op=21∨s.op=22∨s.op=23) :
 Calls Try.prog 40 #[.pointer (some ⟨C,0,none⟩), .agg (stCells s (.slice S0 s.ty.args.length s0) (.slice S1 s.ty.eff.regs.length s1) (.slice S2 s.ty.eff.vars.length s2) (.slice S3 s.args.length s3) (.slice S4 s.types.length s4) (.slice S5 s.effs.length s5) (.slice S6 s.regs.length s6) (.slice S7 s.modes.length s7) (.slice S8 s.keep.length s8) (.slice S9 s.blocks.length s9)).toArray, .slice G ag.length cg] w fun e w'=>e= .returned (.bool (typedC p s ag))∧Below w.heap.size w w':=by
 rcases hop with hop|hop|hop|hop|hop|hop|hop|hop|hop|hop|hop
 all_goals (
  have HC:=Hd.mk hC
  have HK:=Hd.mk hK
  have HV:=Hd.mk hV
  have HG:=Hd.mk hG
  have HFR:=Hd.mk hfr
  have HP:=Hd.mk hP
  have HF:=Hd.mk hF
  obtain ⟨r,hr⟩:∃ z,typedC p s ag=z:=⟨_,rfl⟩
  rw [hr]
  have HR:=Hd.mk hr
  generalize hcs:(stCells s (.slice S0 s.ty.args.length s0) (.slice S1 s.ty.eff.regs.length s1) (.slice S2 s.ty.eff.vars.length s2) (.slice S3 s.args.length s3) (.slice S4 s.types.length s4) (.slice S5 s.effs.length s5) (.slice S6 s.regs.length s6) (.slice S7 s.modes.length s7) (.slice S8 s.keep.length s8) (.slice S9 s.blocks.length s9))=cs
  have HCE:=Hd.mk hcs
  have hg0:cs[0]? =some (.int .i64 s.op):=by rw [←hcs];rfl
  rw [hop] at hg0
  have hg2:cs[2]? =some (.int .i64 s.ty.kind):=by rw [←hcs];rfl
  have hg3:cs[3]? =some (.int .i64 s.ty.n):=by rw [←hcs];rfl
  have hg4:cs[4]? =some (.string s.ty.name):=by rw [←hcs];rfl
  have hg5:cs[5]? =some (.slice S0 s.ty.args.length s0):=by rw [←hcs];rfl
  have hg6:cs[6]? =some (.int .i64 s.ty.region):=by rw [←hcs];rfl
  have hg7:cs[7]? =some (.slice S1 s.ty.eff.regs.length s1):=by rw [←hcs];rfl
  have hg8:cs[8]? =some (.slice S2 s.ty.eff.vars.length s2):=by rw [←hcs];rfl
  have TW:=typed_world w ρ cs G ag.length cg
  have TWH:=Hd.mk TW
  clear hC hK hV hG hfr hP hF hr hcs TW
  go_enter Try.func40,Try.ntmps40
  go_wp2_with fail
  generalize hX10:w.heap.size+1+1+1+1+1=X10 at TWH ⊢
  generalize hX9:w.heap.size+1+1+1+1=X9 at TWH ⊢
  generalize hX8:w.heap.size+1+1+1=X8 at TWH ⊢
  generalize hX7:w.heap.size+1+1=X7 at TWH ⊢
  generalize hX5:w.heap.size+1=X5 at TWH ⊢
  have HX:=Hd.mk (And.intro hX5 (And.intro hX7 (And.intro hX8 (And.intro hX9 hX10))))
  clear hX5 hX7 hX8 hX9 hX10
  generalize (((((w.alloc (.cells cs.toArray 94)).alloc (.cells #[.slice G ag.length cg] 41)).alloc (.cells #[.int .i64 0, .int .i64 0, .string ⟨#[]⟩, .slice none 0 0, .int .i64 0, .slice none 0 0, .slice none 0 0] 43)).alloc (.cells #[.int .i64 1, .int .i64 0, .string ⟨#[]⟩, .slice none 0 0, .int .i64 0, .slice none 0 0, .slice none 0 0] 43)).alloc (.cells #[.int .i64 2, .int .i64 0, .string ⟨#[]⟩, .slice none 0 0, .int .i64 0, .slice none 0 0, .slice none 0 0] 43))=W at TWH ⊢)
 ·have hask:=asked_any W ρ 1 n q 1 w.heap.size X5 s.ty intT ag [] S0 S1 S2 none none none G none s0 s1 s2 0 0 0 cg 0 (TWH.out.step.fresh HFR.out) (TWH.out.b4.cell (i:=2) hg2) (TWH.out.b4.cell (i:=3) hg3) (TWH.out.b4.cell (i:=4) hg4) (TWH.out.b4.cell (i:=5) hg5) (TWH.out.b4.cell (i:=6) hg6) (TWH.out.b4.cell (i:=7) hg7) (TWH.out.b4.cell (i:=8) hg8) (TWH.out.b5.cell (i:=0) rfl) (kindNil 0 ⟨by decide,by decide⟩ _ ρ 0) (TyR.step TWH.out.step _ HV.out.ty) (HG.out.step TWH.out.step) (SlR.nil _ _ _ _ _) TWH.out.b4.lt TWH.out.b5.lt
  have hrr:r=(sameL [s.ty] [intT] && sameL ag []):=by rw [←HR.out];unfold typedC;rw [if_pos hop];rfl
  rw [←hrr] at hask
  have HASK:=Hd.mk hask
  have HSX:=Hd.mk TWH.out.step
  clear hask hrr
  refine HASK.out.mono ?_
  rintro e Wy ⟨rfl,hb⟩
  have HSY:=Hd.mk (HSX.out.of_below hb)
  clear hb
  go_wp2
  go_ret
  exact ⟨rfl,HSY.out.toBelow⟩
 ·have hask:=asked_any W ρ 1 n q 1 w.heap.size X5 s.ty boolT ag [] S0 S1 S2 none none none G none s0 s1 s2 0 0 0 cg 0 (TWH.out.step.fresh HFR.out) (TWH.out.b4.cell (i:=2) hg2) (TWH.out.b4.cell (i:=3) hg3) (TWH.out.b4.cell (i:=4) hg4) (TWH.out.b4.cell (i:=5) hg5) (TWH.out.b4.cell (i:=6) hg6) (TWH.out.b4.cell (i:=7) hg7) (TWH.out.b4.cell (i:=8) hg8) (TWH.out.b5.cell (i:=0) rfl) (kindNil 1 ⟨by decide,by decide⟩ _ ρ 0) (TyR.step TWH.out.step _ HV.out.ty) (HG.out.step TWH.out.step) (SlR.nil _ _ _ _ _) TWH.out.b4.lt TWH.out.b5.lt
  have hrr:r=(sameL [s.ty] [boolT] && sameL ag []):=by rw [←HR.out];unfold typedC;simp [hop];rfl
  rw [←hrr] at hask
  have HASK:=Hd.mk hask
  have HSX:=Hd.mk TWH.out.step
  clear hask hrr
  refine HASK.out.mono ?_
  rintro e Wy ⟨rfl,hb⟩
  have HSY:=Hd.mk (HSX.out.of_below hb)
  clear hb
  go_wp2
  go_ret
  exact ⟨rfl,HSY.out.toBelow⟩
 ·have hask:=asked_any W ρ 1 n q 1 w.heap.size X5 s.ty unitT ag [] S0 S1 S2 none none none G none s0 s1 s2 0 0 0 cg 0 (TWH.out.step.fresh HFR.out) (TWH.out.b4.cell (i:=2) hg2) (TWH.out.b4.cell (i:=3) hg3) (TWH.out.b4.cell (i:=4) hg4) (TWH.out.b4.cell (i:=5) hg5) (TWH.out.b4.cell (i:=6) hg6) (TWH.out.b4.cell (i:=7) hg7) (TWH.out.b4.cell (i:=8) hg8) (TWH.out.b5.cell (i:=0) rfl) (kindNil 2 ⟨by decide,by decide⟩ _ ρ 0) (TyR.step TWH.out.step _ HV.out.ty) (HG.out.step TWH.out.step) (SlR.nil _ _ _ _ _) TWH.out.b4.lt TWH.out.b5.lt
  have hrr:r=(sameL [s.ty] [unitT] && sameL ag []):=by rw [←HR.out];unfold typedC;simp [hop];rfl
  rw [←hrr] at hask
  have HASK:=Hd.mk hask
  have HSX:=Hd.mk TWH.out.step
  clear hask hrr
  refine HASK.out.mono ?_
  rintro e Wy ⟨rfl,hb⟩
  have HSY:=Hd.mk (HSX.out.of_below hb)
  clear hb
  go_wp2
  go_ret
  exact ⟨rfl,HSY.out.toBelow⟩
 ·have hbx:Blk (W.alloc (.cells #[.int .i64 0, .int .i64 0, .string ⟨#[]⟩, .slice none 0 0, .int .i64 0, .slice none 0 0, .slice none 0 0] 43)) X10 43 [.int .i64 0, .int .i64 0, .string ⟨#[]⟩, .slice none 0 0, .int .i64 0, .slice none 0 0, .slice none 0 0]:=Blk.newAt TWH.out.sz [.int .i64 0, .int .i64 0, .string ⟨#[]⟩, .slice none 0 0, .int .i64 0, .slice none 0 0, .slice none 0 0] 43
  have hsx:=TWH.out.step.alloc (.cells #[.int .i64 0, .int .i64 0, .string ⟨#[]⟩, .slice none 0 0, .int .i64 0, .slice none 0 0, .slice none 0 0] 43)
  have h4x:=TWH.out.b4.alloc (.cells #[.int .i64 0, .int .i64 0, .string ⟨#[]⟩, .slice none 0 0, .int .i64 0, .slice none 0 0, .slice none 0 0] 43)
  have h5x:=TWH.out.b5.alloc (.cells #[.int .i64 0, .int .i64 0, .string ⟨#[]⟩, .slice none 0 0, .int .i64 0, .slice none 0 0, .slice none 0 0] 43)
  generalize W.alloc (.cells #[.int .i64 0, .int .i64 0, .string ⟨#[]⟩, .slice none 0 0, .int .i64 0, .slice none 0 0, .slice none 0 0] 43)=Wx at hbx hsx h4x h5x ⊢
  have hw:=TysR.box (n:=1) (c:=1) (l:=[intT]) hbx (HFR.out X10 (by rw [←TWH.out.sz];exact TWH.out.step.size)) ((FlatR.nil 7 _).snoc rfl (kindNil 0 ⟨by decide,by decide⟩ _ ρ 0)) rfl (by simp)
  have hask:=asked_any Wx ρ 1 n q 1 w.heap.size X5 s.ty unitT ag [intT] S0 S1 S2 none none none G (some ⟨X10,0,none⟩) s0 s1 s2 0 0 0 cg 1 (hsx.fresh HFR.out) (h4x.cell (i:=2) hg2) (h4x.cell (i:=3) hg3) (h4x.cell (i:=4) hg4) (h4x.cell (i:=5) hg5) (h4x.cell (i:=6) hg6) (h4x.cell (i:=7) hg7) (h4x.cell (i:=8) hg8) (h5x.cell (i:=0) rfl) (kindNil 2 ⟨by decide,by decide⟩ _ ρ 0) (TyR.step hsx _ HV.out.ty) (HG.out.step hsx) hw h4x.lt h5x.lt
  have hrr:r=(sameL [s.ty] [unitT] && sameL ag [intT]):=by rw [←HR.out];unfold typedC;simp [hop];rfl
  rw [←hrr] at hask
  have HASK:=Hd.mk hask
  have HSX:=Hd.mk hsx
  clear hask hrr hbx hsx h4x h5x hw
  refine HASK.out.mono ?_
  rintro e Wy ⟨rfl,hb⟩
  have HSY:=Hd.mk (HSX.out.of_below hb)
  clear hb
  go_wp2
  go_ret
  exact ⟨rfl,HSY.out.toBelow⟩
 iterate 2 · (
  have hbx:Blk (W.alloc (.cells #[.int .i64 0, .int .i64 0, .string ⟨#[]⟩, .slice none 0 0, .int .i64 0, .slice none 0 0, .slice none 0 0, .int .i64 0, .int .i64 0, .string ⟨#[]⟩, .slice none 0 0, .int .i64 0, .slice none 0 0, .slice none 0 0] 43)) X10 43 [.int .i64 0, .int .i64 0, .string ⟨#[]⟩, .slice none 0 0, .int .i64 0, .slice none 0 0, .slice none 0 0, .int .i64 0, .int .i64 0, .string ⟨#[]⟩, .slice none 0 0, .int .i64 0, .slice none 0 0, .slice none 0 0]:=Blk.newAt TWH.out.sz [.int .i64 0, .int .i64 0, .string ⟨#[]⟩, .slice none 0 0, .int .i64 0, .slice none 0 0, .slice none 0 0, .int .i64 0, .int .i64 0, .string ⟨#[]⟩, .slice none 0 0, .int .i64 0, .slice none 0 0, .slice none 0 0] 43
  have hsx:=TWH.out.step.alloc (.cells #[.int .i64 0, .int .i64 0, .string ⟨#[]⟩, .slice none 0 0, .int .i64 0, .slice none 0 0, .slice none 0 0, .int .i64 0, .int .i64 0, .string ⟨#[]⟩, .slice none 0 0, .int .i64 0, .slice none 0 0, .slice none 0 0] 43)
  have h4x:=TWH.out.b4.alloc (.cells #[.int .i64 0, .int .i64 0, .string ⟨#[]⟩, .slice none 0 0, .int .i64 0, .slice none 0 0, .slice none 0 0, .int .i64 0, .int .i64 0, .string ⟨#[]⟩, .slice none 0 0, .int .i64 0, .slice none 0 0, .slice none 0 0] 43)
  have h5x:=TWH.out.b5.alloc (.cells #[.int .i64 0, .int .i64 0, .string ⟨#[]⟩, .slice none 0 0, .int .i64 0, .slice none 0 0, .slice none 0 0, .int .i64 0, .int .i64 0, .string ⟨#[]⟩, .slice none 0 0, .int .i64 0, .slice none 0 0, .slice none 0 0] 43)
  generalize W.alloc (.cells #[.int .i64 0, .int .i64 0, .string ⟨#[]⟩, .slice none 0 0, .int .i64 0, .slice none 0 0, .slice none 0 0, .int .i64 0, .int .i64 0, .string ⟨#[]⟩, .slice none 0 0, .int .i64 0, .slice none 0 0, .slice none 0 0] 43)=Wx at hbx hsx h4x h5x ⊢
  have hw:=TysR.box (n:=1) (c:=2) (l:=[intT,intT]) hbx (HFR.out X10 (by rw [←TWH.out.sz];exact TWH.out.step.size)) (((FlatR.nil 7 _).snoc rfl (kindNil 0 ⟨by decide,by decide⟩ _ ρ 0)).snoc rfl (kindNil 0 ⟨by decide,by decide⟩ _ ρ 0)) rfl (by simp)
  have hask:=asked_any Wx ρ 1 n q 1 w.heap.size X5 s.ty boolT ag [intT,intT] S0 S1 S2 none none none G (some ⟨X10,0,none⟩) s0 s1 s2 0 0 0 cg 2 (hsx.fresh HFR.out) (h4x.cell (i:=2) hg2) (h4x.cell (i:=3) hg3) (h4x.cell (i:=4) hg4) (h4x.cell (i:=5) hg5) (h4x.cell (i:=6) hg6) (h4x.cell (i:=7) hg7) (h4x.cell (i:=8) hg8) (h5x.cell (i:=0) rfl) (kindNil 1 ⟨by decide,by decide⟩ _ ρ 0) (TyR.step hsx _ HV.out.ty) (HG.out.step hsx) hw h4x.lt h5x.lt
  have hrr:r=(sameL [s.ty] [boolT] && sameL ag [intT,intT]):=by rw [←HR.out];unfold typedC;simp [hop];rfl
  rw [←hrr] at hask
  have HASK:=Hd.mk hask
  have HSX:=Hd.mk hsx
  clear hask hrr hbx hsx h4x h5x hw
  refine HASK.out.mono ?_
  rintro e Wy ⟨rfl,hb⟩
  have HSY:=Hd.mk (HSX.out.of_below hb)
  clear hb
  go_wp2
  go_ret
  exact ⟨rfl,HSY.out.toBelow⟩)
 iterate 5 · (
  have hbx:Blk (W.alloc (.cells #[.int .i64 0, .int .i64 0, .string ⟨#[]⟩, .slice none 0 0, .int .i64 0, .slice none 0 0, .slice none 0 0, .int .i64 0, .int .i64 0, .string ⟨#[]⟩, .slice none 0 0, .int .i64 0, .slice none 0 0, .slice none 0 0] 43)) X10 43 [.int .i64 0, .int .i64 0, .string ⟨#[]⟩, .slice none 0 0, .int .i64 0, .slice none 0 0, .slice none 0 0, .int .i64 0, .int .i64 0, .string ⟨#[]⟩, .slice none 0 0, .int .i64 0, .slice none 0 0, .slice none 0 0]:=Blk.newAt TWH.out.sz [.int .i64 0, .int .i64 0, .string ⟨#[]⟩, .slice none 0 0, .int .i64 0, .slice none 0 0, .slice none 0 0, .int .i64 0, .int .i64 0, .string ⟨#[]⟩, .slice none 0 0, .int .i64 0, .slice none 0 0, .slice none 0 0] 43
  have hsx:=TWH.out.step.alloc (.cells #[.int .i64 0, .int .i64 0, .string ⟨#[]⟩, .slice none 0 0, .int .i64 0, .slice none 0 0, .slice none 0 0, .int .i64 0, .int .i64 0, .string ⟨#[]⟩, .slice none 0 0, .int .i64 0, .slice none 0 0, .slice none 0 0] 43)
  have h4x:=TWH.out.b4.alloc (.cells #[.int .i64 0, .int .i64 0, .string ⟨#[]⟩, .slice none 0 0, .int .i64 0, .slice none 0 0, .slice none 0 0, .int .i64 0, .int .i64 0, .string ⟨#[]⟩, .slice none 0 0, .int .i64 0, .slice none 0 0, .slice none 0 0] 43)
  have h5x:=TWH.out.b5.alloc (.cells #[.int .i64 0, .int .i64 0, .string ⟨#[]⟩, .slice none 0 0, .int .i64 0, .slice none 0 0, .slice none 0 0, .int .i64 0, .int .i64 0, .string ⟨#[]⟩, .slice none 0 0, .int .i64 0, .slice none 0 0, .slice none 0 0] 43)
  generalize W.alloc (.cells #[.int .i64 0, .int .i64 0, .string ⟨#[]⟩, .slice none 0 0, .int .i64 0, .slice none 0 0, .slice none 0 0, .int .i64 0, .int .i64 0, .string ⟨#[]⟩, .slice none 0 0, .int .i64 0, .slice none 0 0, .slice none 0 0] 43)=Wx at hbx hsx h4x h5x ⊢
  have hw:=TysR.box (n:=1) (c:=2) (l:=[intT,intT]) hbx (HFR.out X10 (by rw [←TWH.out.sz];exact TWH.out.step.size)) (((FlatR.nil 7 _).snoc rfl (kindNil 0 ⟨by decide,by decide⟩ _ ρ 0)).snoc rfl (kindNil 0 ⟨by decide,by decide⟩ _ ρ 0)) rfl (by simp)
  have hask:=asked_any Wx ρ 1 n q 1 w.heap.size X5 s.ty intT ag [intT,intT] S0 S1 S2 none none none G (some ⟨X10,0,none⟩) s0 s1 s2 0 0 0 cg 2 (hsx.fresh HFR.out) (h4x.cell (i:=2) hg2) (h4x.cell (i:=3) hg3) (h4x.cell (i:=4) hg4) (h4x.cell (i:=5) hg5) (h4x.cell (i:=6) hg6) (h4x.cell (i:=7) hg7) (h4x.cell (i:=8) hg8) (h5x.cell (i:=0) rfl) (kindNil 0 ⟨by decide,by decide⟩ _ ρ 0) (TyR.step hsx _ HV.out.ty) (HG.out.step hsx) hw h4x.lt h5x.lt
  have hrr:r=(sameL [s.ty] [intT] && sameL ag [intT,intT]):=by rw [←HR.out];unfold typedC;simp [hop];rfl
  rw [←hrr] at hask
  have HASK:=Hd.mk hask
  have HSX:=Hd.mk hsx
  clear hask hrr hbx hsx h4x h5x hw
  refine HASK.out.mono ?_
  rintro e Wy ⟨rfl,hb⟩
  have HSY:=Hd.mk (HSX.out.of_below hb)
  clear hb
  go_wp2
  go_ret
  exact ⟨rfl,HSY.out.toBelow⟩)
end Go.Proofs.Ytadffbgbndibpaa
