/- GaC: lemmas and walks of the claim. -/
import Derived.Test.YtadffbgbndibpaaKGaB
set_option linter.unusedVariables false
set_option linter.unusedSimpArgs false
set_option maxHeartbeats 16000000
set_option maxRecDepth 100000
namespace Go.Proofs.Ytadffbgbndibpaa
open Go Go.RowKit
theorem typed_C (F:Ty→Prop) (w:World) (ρ:Ghost) (n:Nat) (p:Pg) (ty:Int) (nd:Nat) (C:Nat) (hd:List Value) (mb:Nat) (c:CS) (bg:Bool) (s:St) (S0 S1 S2 S3 S4 S5 S6 S7 S8 S9:Option Addr) (s0 s1 s2 s3 s4 s5 s6 s7 s8 s9:Nat) (ag:List Ty) (G:Option Addr) (cg q:Nat) (hC:CkR F w ρ C hd mb c bg) (hK:CkS w ρ p ty nd hd) (hV:StV w ρ n s (.slice S0 s.ty.args.length s0) (.slice S1 s.ty.eff.regs.length s1) (.slice S2 s.ty.eff.vars.length s2) (.slice S3 s.args.length s3) (.slice S4 s.types.length s4) (.slice S5 s.effs.length s5) (.slice S6 s.regs.length s6) (.slice S7 s.modes.length s7) (.slice S8 s.keep.length s8) (.slice S9 s.blocks.length s9)) (hG:TysR w ρ q (.slice G ag.length cg) ag) (hfr:Fresh w ρ) (hP:HdP p) (hF:formed1 p.datas ty s.ty=true) (hop:s.op=10∨s.op=13∨s.op=15∨s.op=14∨s.op=11∨s.op=12∨s.op=16) :
 Calls Try.prog 40 #[.pointer (some ⟨C,0,none⟩), .agg (stCells s (.slice S0 s.ty.args.length s0) (.slice S1 s.ty.eff.regs.length s1) (.slice S2 s.ty.eff.vars.length s2) (.slice S3 s.args.length s3) (.slice S4 s.types.length s4) (.slice S5 s.effs.length s5) (.slice S6 s.regs.length s6) (.slice S7 s.modes.length s7) (.slice S8 s.keep.length s8) (.slice S9 s.blocks.length s9)).toArray, .slice G ag.length cg] w fun e w'=>e= .returned (.bool (typedC p s ag))∧Below w.heap.size w w':=by
 rcases hop with hop|hop|hop|hop|hop|hop|hop
 all_goals (
  have HC:=Hd.mk hC
  have HK:=Hd.mk hK
  have HV:=Hd.mk hV
  have HG:=Hd.mk hG
  have HFR:=Hd.mk hfr
  have HP:=Hd.mk hP
  have HF:=Hd.mk hF
  obtain ⟨r,hr⟩:∃ z,typedC p s ag=z:=⟨_,rfl⟩
  rw [hr]
  have HR:=Hd.mk hr
  generalize hcs:(stCells s (.slice S0 s.ty.args.length s0) (.slice S1 s.ty.eff.regs.length s1) (.slice S2 s.ty.eff.vars.length s2) (.slice S3 s.args.length s3) (.slice S4 s.types.length s4) (.slice S5 s.effs.length s5) (.slice S6 s.regs.length s6) (.slice S7 s.modes.length s7) (.slice S8 s.keep.length s8) (.slice S9 s.blocks.length s9))=cs
  have HCE:=Hd.mk hcs
  have hg0:cs[0]? =some (.int .i64 s.op):=by rw [←hcs];rfl
  rw [hop] at hg0
  have hg2:cs[2]? =some (.int .i64 s.ty.kind):=by rw [←hcs];rfl
  have hg3:cs[3]? =some (.int .i64 s.ty.n):=by rw [←hcs];rfl
  have hg4:cs[4]? =some (.string s.ty.name):=by rw [←hcs];rfl
  have hg5:cs[5]? =some (.slice S0 s.ty.args.length s0):=by rw [←hcs];rfl
  have hg6:cs[6]? =some (.int .i64 s.ty.region):=by rw [←hcs];rfl
  have hg7:cs[7]? =some (.slice S1 s.ty.eff.regs.length s1):=by rw [←hcs];rfl
  have hg8:cs[8]? =some (.slice S2 s.ty.eff.vars.length s2):=by rw [←hcs];rfl
  have TW:=typed_world w ρ cs G ag.length cg
  have TWH:=Hd.mk TW
  clear hC hK hV hG hfr hP hF hr hcs TW
  go_enter Try.func40,Try.ntmps40
  go_wp2_with fail
  generalize hX10:w.heap.size+1+1+1+1+1=X10 at TWH ⊢
  generalize hX9:w.heap.size+1+1+1+1=X9 at TWH ⊢
  generalize hX8:w.heap.size+1+1+1=X8 at TWH ⊢
  generalize hX7:w.heap.size+1+1=X7 at TWH ⊢
  generalize hX5:w.heap.size+1=X5 at TWH ⊢
  have HX:=Hd.mk (And.intro hX5 (And.intro hX7 (And.intro hX8 (And.intro hX9 hX10))))
  clear hX5 hX7 hX8 hX9 hX10
  generalize (((((w.alloc (.cells cs.toArray 94)).alloc (.cells #[.slice G ag.length cg] 41)).alloc (.cells #[.int .i64 0, .int .i64 0, .string ⟨#[]⟩, .slice none 0 0, .int .i64 0, .slice none 0 0, .slice none 0 0] 43)).alloc (.cells #[.int .i64 1, .int .i64 0, .string ⟨#[]⟩, .slice none 0 0, .int .i64 0, .slice none 0 0, .slice none 0 0] 43)).alloc (.cells #[.int .i64 2, .int .i64 0, .string ⟨#[]⟩, .slice none 0 0, .int .i64 0, .slice none 0 0, .slice none 0 0] 43))=W at TWH ⊢)
 ·have y2:W.cell? ⟨w.heap.size,2,none⟩=some (.int .i64 s.ty.kind):=TWH.out.b4.cell (i:=2) hg2
  have y3:W.cell? ⟨w.heap.size,3,none⟩=some (.int .i64 s.ty.n):=TWH.out.b4.cell (i:=3) hg3
  have y4:W.cell? ⟨w.heap.size,4,none⟩=some (.string s.ty.name):=TWH.out.b4.cell (i:=4) hg4
  have y5:W.cell? ⟨w.heap.size,5,none⟩=some (.slice S0 s.ty.args.length s0):=TWH.out.b4.cell (i:=5) hg5
  have y6:W.cell? ⟨w.heap.size,6,none⟩=some (.int .i64 s.ty.region):=TWH.out.b4.cell (i:=6) hg6
  have y7:W.cell? ⟨w.heap.size,7,none⟩=some (.slice S1 s.ty.eff.regs.length s1):=TWH.out.b4.cell (i:=7) hg7
  have y8:W.cell? ⟨w.heap.size,8,none⟩=some (.slice S2 s.ty.eff.vars.length s2):=TWH.out.b4.cell (i:=8) hg8
  have y5s:W.cell? ⟨X5,0,none⟩=some (.slice G ag.length cg):=TWH.out.b5.cell (i:=0) rfl
  have l4:=TWH.out.b4.lt
  have l5:=TWH.out.b5.lt
  have HFW:=Hd.mk (TWH.out.step.fresh HFR.out)
  have HSRC:=Hd.mk (TyR.step TWH.out.step _ HV.out.ty)
  have HRR:Hd ((sameL [s.ty] [s.ty] && sameL ag [kindT 7 [s.ty]])=r):=⟨by rw [←HR.out];unfold typedC;simp [hop];rfl⟩
  have HSc:=Hd.mk ((Step.refl (fun _=>False) W ρ).drew)
  go_region_held3 (fun wv=>Step (fun _=>False) W ρ wv ρ∧∀ a:Addr,a.block<W.heap.size→wv.cell? a=W.cell? a) (first|exact keepS_of HSc.out|exact keepS_of (HSc.out.alloc _)) (first|(go_at_call 50;refine (within_any _ ρ n 7 s.ty S0 S1 S2 s0 s1 s2 ⟨by decide,by decide⟩ (HSc.out.fresh HFW.out) (TyR.step HSc.out _ HSRC.out)).mono ?_;rintro e Wn ⟨X6,rfl,hb,hT6⟩;have HSc:=Hd.mk (HSc.out.of_below hb);have HT6:=Hd.mk hT6;clear hb hT6)|(go_at_call 49;have hbx:=Blk.new Wn [.int .i64 7, .int .i64 0, .string ⟨#[]⟩, .slice (some ⟨X6,0,none⟩) 1 1, .int .i64 0, .slice none 0 0, .slice none 0 0] 43;have hsa:=(Step.refl (fun _=>False) Wn ρ).alloc (.cells ([.int .i64 7, .int .i64 0, .string ⟨#[]⟩, .slice (some ⟨X6,0,none⟩) 1 1, .int .i64 0, .slice none 0 0, .slice none 0 0]:List Value).toArray 43);have hsx:=HSc.out.trans hsa;have hb4:=hsx.blk TWH.out.b4 (fun _ _ h=>h);have hb5:=hsx.blk TWH.out.b5 (fun _ _ h=>h);have hw:=TysR.box (n:=n+1) (c:=1) (l:=[kindT 7 [s.ty]]) hbx (HFW.out _ HSc.out.size) ((FlatR.nil 7 _).snoc rfl (TyR.step hsa _ HT6.out)) rfl (by simp);refine (asked_any _ ρ n n q (n+1) w.heap.size X5 s.ty s.ty ag [kindT 7 [s.ty]] S0 S1 S2 S0 S1 S2 G (some ⟨Wn.heap.size,0,none⟩) s0 s1 s2 s0 s1 s2 cg 1 (hsx.fresh HFW.out) (hb4.cell (i:=2) hg2) (hb4.cell (i:=3) hg3) (hb4.cell (i:=4) hg4) (hb4.cell (i:=5) hg5) (hb4.cell (i:=6) hg6) (hb4.cell (i:=7) hg7) (hb4.cell (i:=8) hg8) (hb5.cell (i:=0) rfl) (TyR.step (TWH.out.step.trans hsx) _ HV.out.ty) (TyR.step (TWH.out.step.trans hsx) _ HV.out.ty) (HG.out.step (TWH.out.step.trans hsx)) hw hb4.lt hb5.lt).mono ?_;rintro e Wn ⟨he,hb⟩;rw [HRR.out] at he;subst he;have HSc:=Hd.mk (hsx.of_below hb);clear hb hbx hsa hsx hb4 hb5 hw))
  all_goals go_wp2
  all_goals go_ret
  all_goals exact ⟨rfl,(TWH.out.step.trans HSc.out).toBelow⟩
 ·have y2:W.cell? ⟨w.heap.size,2,none⟩=some (.int .i64 s.ty.kind):=TWH.out.b4.cell (i:=2) hg2
  have y3:W.cell? ⟨w.heap.size,3,none⟩=some (.int .i64 s.ty.n):=TWH.out.b4.cell (i:=3) hg3
  have y4:W.cell? ⟨w.heap.size,4,none⟩=some (.string s.ty.name):=TWH.out.b4.cell (i:=4) hg4
  have y5:W.cell? ⟨w.heap.size,5,none⟩=some (.slice S0 s.ty.args.length s0):=TWH.out.b4.cell (i:=5) hg5
  have y6:W.cell? ⟨w.heap.size,6,none⟩=some (.int .i64 s.ty.region):=TWH.out.b4.cell (i:=6) hg6
  have y7:W.cell? ⟨w.heap.size,7,none⟩=some (.slice S1 s.ty.eff.regs.length s1):=TWH.out.b4.cell (i:=7) hg7
  have y8:W.cell? ⟨w.heap.size,8,none⟩=some (.slice S2 s.ty.eff.vars.length s2):=TWH.out.b4.cell (i:=8) hg8
  have y5s:W.cell? ⟨X5,0,none⟩=some (.slice G ag.length cg):=TWH.out.b5.cell (i:=0) rfl
  have z70:W.cell? ⟨X7,0,none⟩=some (.int .i64 0):=TWH.out.b7.cell (i:=0) rfl
  have z71:W.cell? ⟨X7,1,none⟩=some (.int .i64 0):=TWH.out.b7.cell (i:=1) rfl
  have z72:W.cell? ⟨X7,2,none⟩=some (.string ⟨#[]⟩):=TWH.out.b7.cell (i:=2) rfl
  have z73:W.cell? ⟨X7,3,none⟩=some (.slice none 0 0):=TWH.out.b7.cell (i:=3) rfl
  have z74:W.cell? ⟨X7,4,none⟩=some (.int .i64 0):=TWH.out.b7.cell (i:=4) rfl
  have z75:W.cell? ⟨X7,5,none⟩=some (.slice none 0 0):=TWH.out.b7.cell (i:=5) rfl
  have z76:W.cell? ⟨X7,6,none⟩=some (.slice none 0 0):=TWH.out.b7.cell (i:=6) rfl
  have l4:=TWH.out.b4.lt
  have l5:=TWH.out.b5.lt
  have l7:=TWH.out.b7.lt
  have HFW:=Hd.mk (TWH.out.step.fresh HFR.out)
  have HSRC:=Hd.mk (TyR.step TWH.out.step _ HV.out.ty)
  have HRR:Hd ((sameL [s.ty] [s.ty] && sameL ag [kindT 8 [s.ty],intT])=r):=⟨by rw [←HR.out];unfold typedC;simp [hop];rfl⟩
  have HSc:=Hd.mk ((Step.refl (fun _=>False) W ρ).drew)
  go_region_held3 (fun wv=>Step (fun _=>False) W ρ wv ρ∧∀ a:Addr,a.block<W.heap.size→wv.cell? a=W.cell? a) (first|exact keepS_of HSc.out|exact keepS_of (HSc.out.alloc _)) (first|(go_at_call 50;refine (within_any _ ρ n 8 s.ty S0 S1 S2 s0 s1 s2 ⟨by decide,by decide⟩ (HSc.out.fresh HFW.out) (TyR.step HSc.out _ HSRC.out)).mono ?_;rintro e Wn ⟨X6,rfl,hb,hT6⟩;have HSc:=Hd.mk (HSc.out.of_below hb);have HT6:=Hd.mk hT6;clear hb hT6)|(go_at_call 49;have hbx:=Blk.new Wn [.int .i64 8, .int .i64 0, .string ⟨#[]⟩, .slice (some ⟨X6,0,none⟩) 1 1, .int .i64 0, .slice none 0 0, .slice none 0 0, .int .i64 0, .int .i64 0, .string ⟨#[]⟩, .slice none 0 0, .int .i64 0, .slice none 0 0, .slice none 0 0] 43;have hsa:=(Step.refl (fun _=>False) Wn ρ).alloc (.cells ([.int .i64 8, .int .i64 0, .string ⟨#[]⟩, .slice (some ⟨X6,0,none⟩) 1 1, .int .i64 0, .slice none 0 0, .slice none 0 0, .int .i64 0, .int .i64 0, .string ⟨#[]⟩, .slice none 0 0, .int .i64 0, .slice none 0 0, .slice none 0 0]:List Value).toArray 43);have hsx:=HSc.out.trans hsa;have hb4:=hsx.blk TWH.out.b4 (fun _ _ h=>h);have hb5:=hsx.blk TWH.out.b5 (fun _ _ h=>h);have hw:=TysR.box (n:=n+1) (c:=2) (l:=[kindT 8 [s.ty],intT]) hbx (HFW.out _ HSc.out.size) (((FlatR.nil 7 _).snoc rfl (TyR.step hsa _ HT6.out)).snoc rfl (kindNil 0 ⟨by decide,by decide⟩ _ ρ (n))) rfl (by simp);refine (asked_any _ ρ n n q (n+1) w.heap.size X5 s.ty s.ty ag [kindT 8 [s.ty],intT] S0 S1 S2 S0 S1 S2 G (some ⟨Wn.heap.size,0,none⟩) s0 s1 s2 s0 s1 s2 cg 2 (hsx.fresh HFW.out) (hb4.cell (i:=2) hg2) (hb4.cell (i:=3) hg3) (hb4.cell (i:=4) hg4) (hb4.cell (i:=5) hg5) (hb4.cell (i:=6) hg6) (hb4.cell (i:=7) hg7) (hb4.cell (i:=8) hg8) (hb5.cell (i:=0) rfl) (TyR.step (TWH.out.step.trans hsx) _ HV.out.ty) (TyR.step (TWH.out.step.trans hsx) _ HV.out.ty) (HG.out.step (TWH.out.step.trans hsx)) hw hb4.lt hb5.lt).mono ?_;rintro e Wn ⟨he,hb⟩;rw [HRR.out] at he;subst he;have HSc:=Hd.mk (hsx.of_below hb);clear hb hbx hsa hsx hb4 hb5 hw))
  all_goals go_wp2
  all_goals go_ret
  all_goals exact ⟨rfl,(TWH.out.step.trans HSc.out).toBelow⟩
 ·have y5s:W.cell? ⟨X5,0,none⟩=some (.slice G ag.length cg):=TWH.out.b5.cell (i:=0) rfl
  have z70:W.cell? ⟨X7,0,none⟩=some (.int .i64 0):=TWH.out.b7.cell (i:=0) rfl
  have z71:W.cell? ⟨X7,1,none⟩=some (.int .i64 0):=TWH.out.b7.cell (i:=1) rfl
  have z72:W.cell? ⟨X7,2,none⟩=some (.string ⟨#[]⟩):=TWH.out.b7.cell (i:=2) rfl
  have z73:W.cell? ⟨X7,3,none⟩=some (.slice none 0 0):=TWH.out.b7.cell (i:=3) rfl
  have z74:W.cell? ⟨X7,4,none⟩=some (.int .i64 0):=TWH.out.b7.cell (i:=4) rfl
  have z75:W.cell? ⟨X7,5,none⟩=some (.slice none 0 0):=TWH.out.b7.cell (i:=5) rfl
  have z76:W.cell? ⟨X7,6,none⟩=some (.slice none 0 0):=TWH.out.b7.cell (i:=6) rfl
  have l4:=TWH.out.b4.lt
  have l5:=TWH.out.b5.lt
  have l7:=TWH.out.b7.lt
  have HFW:=Hd.mk (TWH.out.step.fresh HFR.out)
  obtain ⟨B0,B1,B2,k0,k1,k2,⟨nf,hTf⟩,hfi⟩:=first_any W ρ q X5 ag G cg y5s (HG.out.step TWH.out.step)
  have HSRC:=Hd.mk hTf
  have HFI:=Hd.mk hfi
  clear hTf hfi
  have HRR:Hd ((sameL [s.ty] [intT] && sameL ag [kindT 8 [(firstT ag)]])=r):=⟨by rw [←HR.out];unfold typedC;simp [hop];rfl⟩
  have HSc:=Hd.mk ((Step.refl (fun _=>False) W ρ).drew)
  go_region_held3 (fun wv=>Step (fun _=>False) W ρ wv ρ∧∀ a:Addr,a.block<W.heap.size→wv.cell? a=W.cell? a) (first|exact keepS_of HSc.out|exact keepS_of (HSc.out.alloc _)) (first|(go_at_call 50;refine (within_any _ ρ nf 8 (firstT ag) B0 B1 B2 k0 k1 k2 ⟨by decide,by decide⟩ (HSc.out.fresh HFW.out) (TyR.step HSc.out _ HSRC.out)).mono ?_;rintro e Wn ⟨X6,rfl,hb,hT6⟩;have HSc:=Hd.mk (HSc.out.of_below hb);have HT6:=Hd.mk hT6;clear hb hT6)|(go_at_call 51;refine (HFI.out _ HSc.out).mono ?_;rintro e Wn ⟨rfl,hb⟩;have hsn:=Step.ofBelow ρ hb;(try have HT6:=Hd.mk (TyR.step hsn _ HT6.out));have HSc:=Hd.mk (HSc.out.trans hsn);clear hb hsn)|(go_at_call 49;have hbx:=Blk.new Wn [.int .i64 8, .int .i64 0, .string ⟨#[]⟩, .slice (some ⟨X6,0,none⟩) 1 1, .int .i64 0, .slice none 0 0, .slice none 0 0] 43;have hsa:=(Step.refl (fun _=>False) Wn ρ).alloc (.cells ([.int .i64 8, .int .i64 0, .string ⟨#[]⟩, .slice (some ⟨X6,0,none⟩) 1 1, .int .i64 0, .slice none 0 0, .slice none 0 0]:List Value).toArray 43);have hsx:=HSc.out.trans hsa;have hb4:=hsx.blk TWH.out.b4 (fun _ _ h=>h);have hb5:=hsx.blk TWH.out.b5 (fun _ _ h=>h);have hw:=TysR.box (n:=nf+1) (c:=1) (l:=[kindT 8 [(firstT ag)]]) hbx (HFW.out _ HSc.out.size) ((FlatR.nil 7 _).snoc rfl (TyR.step hsa _ HT6.out)) rfl (by simp);refine (asked_any _ ρ 1 n q (nf+1) w.heap.size X5 s.ty intT ag [kindT 8 [(firstT ag)]] S0 S1 S2 none none none G (some ⟨Wn.heap.size,0,none⟩) s0 s1 s2 0 0 0 cg 1 (hsx.fresh HFW.out) (hb4.cell (i:=2) hg2) (hb4.cell (i:=3) hg3) (hb4.cell (i:=4) hg4) (hb4.cell (i:=5) hg5) (hb4.cell (i:=6) hg6) (hb4.cell (i:=7) hg7) (hb4.cell (i:=8) hg8) (hb5.cell (i:=0) rfl) (kindNil 0 ⟨by decide,by decide⟩ _ ρ 0) (TyR.step (TWH.out.step.trans hsx) _ HV.out.ty) (HG.out.step (TWH.out.step.trans hsx)) hw hb4.lt hb5.lt).mono ?_;rintro e Wn ⟨he,hb⟩;rw [HRR.out] at he;subst he;have HSc:=Hd.mk (hsx.of_below hb);clear hb hbx hsa hsx hb4 hb5 hw))
  all_goals go_wp2
  all_goals go_ret
  all_goals exact ⟨rfl,(TWH.out.step.trans HSc.out).toBelow⟩
 ·have y5s:W.cell? ⟨X5,0,none⟩=some (.slice G ag.length cg):=TWH.out.b5.cell (i:=0) rfl
  have z70:W.cell? ⟨X7,0,none⟩=some (.int .i64 0):=TWH.out.b7.cell (i:=0) rfl
  have z71:W.cell? ⟨X7,1,none⟩=some (.int .i64 0):=TWH.out.b7.cell (i:=1) rfl
  have z72:W.cell? ⟨X7,2,none⟩=some (.string ⟨#[]⟩):=TWH.out.b7.cell (i:=2) rfl
  have z73:W.cell? ⟨X7,3,none⟩=some (.slice none 0 0):=TWH.out.b7.cell (i:=3) rfl
  have z74:W.cell? ⟨X7,4,none⟩=some (.int .i64 0):=TWH.out.b7.cell (i:=4) rfl
  have z75:W.cell? ⟨X7,5,none⟩=some (.slice none 0 0):=TWH.out.b7.cell (i:=5) rfl
  have z76:W.cell? ⟨X7,6,none⟩=some (.slice none 0 0):=TWH.out.b7.cell (i:=6) rfl
  have z90:W.cell? ⟨X9,0,none⟩=some (.int .i64 2):=TWH.out.b9.cell (i:=0) rfl
  have z91:W.cell? ⟨X9,1,none⟩=some (.int .i64 0):=TWH.out.b9.cell (i:=1) rfl
  have z92:W.cell? ⟨X9,2,none⟩=some (.string ⟨#[]⟩):=TWH.out.b9.cell (i:=2) rfl
  have z93:W.cell? ⟨X9,3,none⟩=some (.slice none 0 0):=TWH.out.b9.cell (i:=3) rfl
  have z94:W.cell? ⟨X9,4,none⟩=some (.int .i64 0):=TWH.out.b9.cell (i:=4) rfl
  have z95:W.cell? ⟨X9,5,none⟩=some (.slice none 0 0):=TWH.out.b9.cell (i:=5) rfl
  have z96:W.cell? ⟨X9,6,none⟩=some (.slice none 0 0):=TWH.out.b9.cell (i:=6) rfl
  have l4:=TWH.out.b4.lt
  have l5:=TWH.out.b5.lt
  have l7:=TWH.out.b7.lt
  have l9:=TWH.out.b9.lt
  have HFW:=Hd.mk (TWH.out.step.fresh HFR.out)
  obtain ⟨B0,B1,B2,k0,k1,k2,⟨nf,hTf⟩,hfi⟩:=first_any W ρ q X5 ag G cg y5s (HG.out.step TWH.out.step)
  have HSRC:=Hd.mk hTf
  have HFI:=Hd.mk hfi
  clear hTf hfi
  have HRR:Hd ((sameL [s.ty] [unitT] && sameL ag [kindT 8 [(firstT ag)],intT,(firstT ag)])=r):=⟨by rw [←HR.out];unfold typedC;simp [hop];rfl⟩
  have HSc:=Hd.mk ((Step.refl (fun _=>False) W ρ).drew)
  go_region_held3 (fun wv=>Step (fun _=>False) W ρ wv ρ∧∀ a:Addr,a.block<W.heap.size→wv.cell? a=W.cell? a) (first|exact keepS_of HSc.out|exact keepS_of (HSc.out.alloc _)) (first|(go_at_call 50;refine (within_any _ ρ nf 8 (firstT ag) B0 B1 B2 k0 k1 k2 ⟨by decide,by decide⟩ (HSc.out.fresh HFW.out) (TyR.step HSc.out _ HSRC.out)).mono ?_;rintro e Wn ⟨X6,rfl,hb,hT6⟩;have HSc:=Hd.mk (HSc.out.of_below hb);have HT6:=Hd.mk hT6;clear hb hT6)|(go_at_call 51;refine (HFI.out _ HSc.out).mono ?_;rintro e Wn ⟨rfl,hb⟩;have hsn:=Step.ofBelow ρ hb;(try have HT6:=Hd.mk (TyR.step hsn _ HT6.out));have HSc:=Hd.mk (HSc.out.trans hsn);clear hb hsn)|(go_at_call 49;have hbx:=Blk.new Wn [.int .i64 8, .int .i64 0, .string ⟨#[]⟩, .slice (some ⟨X6,0,none⟩) 1 1, .int .i64 0, .slice none 0 0, .slice none 0 0, .int .i64 0, .int .i64 0, .string ⟨#[]⟩, .slice none 0 0, .int .i64 0, .slice none 0 0, .slice none 0 0, .int .i64 (firstT ag).kind, .int .i64 (firstT ag).n, .string (firstT ag).name, .slice B0 (firstT ag).args.length k0, .int .i64 (firstT ag).region, .slice B1 (firstT ag).eff.regs.length k1, .slice B2 (firstT ag).eff.vars.length k2] 43;have hsa:=(Step.refl (fun _=>False) Wn ρ).alloc (.cells ([.int .i64 8, .int .i64 0, .string ⟨#[]⟩, .slice (some ⟨X6,0,none⟩) 1 1, .int .i64 0, .slice none 0 0, .slice none 0 0, .int .i64 0, .int .i64 0, .string ⟨#[]⟩, .slice none 0 0, .int .i64 0, .slice none 0 0, .slice none 0 0, .int .i64 (firstT ag).kind, .int .i64 (firstT ag).n, .string (firstT ag).name, .slice B0 (firstT ag).args.length k0, .int .i64 (firstT ag).region, .slice B1 (firstT ag).eff.regs.length k1, .slice B2 (firstT ag).eff.vars.length k2]:List Value).toArray 43);have hsx:=HSc.out.trans hsa;have hb4:=hsx.blk TWH.out.b4 (fun _ _ h=>h);have hb5:=hsx.blk TWH.out.b5 (fun _ _ h=>h);have hw:=TysR.box (n:=nf+1) (c:=3) (l:=[kindT 8 [(firstT ag)],intT,(firstT ag)]) hbx (HFW.out _ HSc.out.size) ((((FlatR.nil 7 _).snoc rfl (TyR.step hsa _ HT6.out)).snoc rfl (kindNil 0 ⟨by decide,by decide⟩ _ ρ (nf))).snoc rfl ((TyR.step hsx _ HSRC.out).mono (by omega))) rfl (by simp);refine (asked_any _ ρ 1 n q (nf+1) w.heap.size X5 s.ty unitT ag [kindT 8 [(firstT ag)],intT,(firstT ag)] S0 S1 S2 none none none G (some ⟨Wn.heap.size,0,none⟩) s0 s1 s2 0 0 0 cg 3 (hsx.fresh HFW.out) (hb4.cell (i:=2) hg2) (hb4.cell (i:=3) hg3) (hb4.cell (i:=4) hg4) (hb4.cell (i:=5) hg5) (hb4.cell (i:=6) hg6) (hb4.cell (i:=7) hg7) (hb4.cell (i:=8) hg8) (hb5.cell (i:=0) rfl) (kindNil 2 ⟨by decide,by decide⟩ _ ρ 0) (TyR.step (TWH.out.step.trans hsx) _ HV.out.ty) (HG.out.step (TWH.out.step.trans hsx)) hw hb4.lt hb5.lt).mono ?_;rintro e Wn ⟨he,hb⟩;rw [HRR.out] at he;subst he;have HSc:=Hd.mk (hsx.of_below hb);clear hb hbx hsa hsx hb4 hb5 hw))
  all_goals go_wp2
  all_goals go_ret
  all_goals exact ⟨rfl,(TWH.out.step.trans HSc.out).toBelow⟩
 ·by_cases hl:ag.length=2
  ·have hli:((ag.length:Nat):Int)=2:=by omega
   have hli2:(1:Int)<((ag.length:Nat):Int):=by omega
   have hget:ag[1]? =some ag[1]:=List.getElem?_eq_getElem (by omega)
   generalize ag[1]=x1 at hget
   have HL:=Hd.mk hl
   have HGET:=Hd.mk hget
   obtain ⟨bG,oG,mG,E0,g0,E1,g1,E2,g2,hGA,hmG,hRG,hTG,hcG⟩:=(HG.out.step TWH.out.step).elemC (k:=1) HGET.out
   subst hGA
   have HSRC:=Hd.mk hRG
   have p0:W.cell? ⟨bG,oG+7,none⟩=some (.int .i64 x1.kind):=by have h:=hcG 0 _ rfl;rw [show oG+1*7+0=oG+7 by omega] at h;exact h
   have p1:W.cell? ⟨bG,oG+7+1,none⟩=some (.int .i64 x1.n):=by have h:=hcG 1 _ rfl;rw [show oG+1*7+1=oG+7+1 by omega] at h;exact h
   have p2:W.cell? ⟨bG,oG+7+2,none⟩=some (.string x1.name):=by have h:=hcG 2 _ rfl;rw [show oG+1*7+2=oG+7+2 by omega] at h;exact h
   have p3:W.cell? ⟨bG,oG+7+3,none⟩=some (.slice E0 x1.args.length g0):=by have h:=hcG 3 _ rfl;rw [show oG+1*7+3=oG+7+3 by omega] at h;exact h
   have p4:W.cell? ⟨bG,oG+7+4,none⟩=some (.int .i64 x1.region):=by have h:=hcG 4 _ rfl;rw [show oG+1*7+4=oG+7+4 by omega] at h;exact h
   have p5:W.cell? ⟨bG,oG+7+5,none⟩=some (.slice E1 x1.eff.regs.length g1):=by have h:=hcG 5 _ rfl;rw [show oG+1*7+5=oG+7+5 by omega] at h;exact h
   have p6:W.cell? ⟨bG,oG+7+6,none⟩=some (.slice E2 x1.eff.vars.length g2):=by have h:=hcG 6 _ rfl;rw [show oG+1*7+6=oG+7+6 by omega] at h;exact h
   have lG:bG<W.heap.size:=World.block_lt_of_cell? W ⟨bG,_,none⟩ p0
   clear hl hget hRG hTG hcG hmG
   have y5s:W.cell? ⟨X5,0,none⟩=some (.slice (some ⟨bG,oG,none⟩) ag.length cg):=TWH.out.b5.cell (i:=0) rfl
   have z90:W.cell? ⟨X9,0,none⟩=some (.int .i64 2):=TWH.out.b9.cell (i:=0) rfl
   have z91:W.cell? ⟨X9,1,none⟩=some (.int .i64 0):=TWH.out.b9.cell (i:=1) rfl
   have z92:W.cell? ⟨X9,2,none⟩=some (.string ⟨#[]⟩):=TWH.out.b9.cell (i:=2) rfl
   have z93:W.cell? ⟨X9,3,none⟩=some (.slice none 0 0):=TWH.out.b9.cell (i:=3) rfl
   have z94:W.cell? ⟨X9,4,none⟩=some (.int .i64 0):=TWH.out.b9.cell (i:=4) rfl
   have z95:W.cell? ⟨X9,5,none⟩=some (.slice none 0 0):=TWH.out.b9.cell (i:=5) rfl
   have z96:W.cell? ⟨X9,6,none⟩=some (.slice none 0 0):=TWH.out.b9.cell (i:=6) rfl
   have l4:=TWH.out.b4.lt
   have l5:=TWH.out.b5.lt
   have l9:=TWH.out.b9.lt
   have HFW:=Hd.mk (TWH.out.step.fresh HFR.out)
   have HRR:Hd ((sameL [s.ty] [unitT] && sameL ag [kindT 7 [x1],x1])=r):=⟨by rw [←HR.out];exact (typedC_11 hop HL.out HGET.out).symm ▸ rfl⟩
   have HSc:=Hd.mk ((Step.refl (fun _=>False) W ρ).drew)
   go_region_held3 (fun wv=>Step (fun _=>False) W ρ wv ρ∧∀ a:Addr,a.block<W.heap.size→wv.cell? a=W.cell? a) (first|exact keepS_of HSc.out|exact keepS_of (HSc.out.alloc _)) (first|(go_at_call 50;refine (within_any _ ρ q 7 x1 E0 E1 E2 g0 g1 g2 ⟨by decide,by decide⟩ (HSc.out.fresh HFW.out) (TyR.step HSc.out _ HSRC.out)).mono ?_;rintro e Wn ⟨X6,rfl,hb,hT6⟩;have HSc:=Hd.mk (HSc.out.of_below hb);have HT6:=Hd.mk hT6;clear hb hT6)|(go_at_call 49;have hbx:=Blk.new Wn [.int .i64 7, .int .i64 0, .string ⟨#[]⟩, .slice (some ⟨X6,0,none⟩) 1 1, .int .i64 0, .slice none 0 0, .slice none 0 0, .int .i64 x1.kind, .int .i64 x1.n, .string x1.name, .slice E0 x1.args.length g0, .int .i64 x1.region, .slice E1 x1.eff.regs.length g1, .slice E2 x1.eff.vars.length g2] 43;have hsa:=(Step.refl (fun _=>False) Wn ρ).alloc (.cells ([.int .i64 7, .int .i64 0, .string ⟨#[]⟩, .slice (some ⟨X6,0,none⟩) 1 1, .int .i64 0, .slice none 0 0, .slice none 0 0, .int .i64 x1.kind, .int .i64 x1.n, .string x1.name, .slice E0 x1.args.length g0, .int .i64 x1.region, .slice E1 x1.eff.regs.length g1, .slice E2 x1.eff.vars.length g2]:List Value).toArray 43);have hsx:=HSc.out.trans hsa;have hb4:=hsx.blk TWH.out.b4 (fun _ _ h=>h);have hb5:=hsx.blk TWH.out.b5 (fun _ _ h=>h);have hw:=TysR.box (n:=q+1) (c:=2) (l:=[kindT 7 [x1],x1]) hbx (HFW.out _ HSc.out.size) (((FlatR.nil 7 _).snoc rfl (TyR.step hsa _ HT6.out)).snoc rfl ((TyR.step hsx _ HSRC.out).mono (by omega))) rfl (by simp);refine (asked_any _ ρ 1 n q (q+1) w.heap.size X5 s.ty unitT ag [kindT 7 [x1],x1] S0 S1 S2 none none none (some ⟨bG,oG,none⟩) (some ⟨Wn.heap.size,0,none⟩) s0 s1 s2 0 0 0 cg 2 (hsx.fresh HFW.out) (hb4.cell (i:=2) hg2) (hb4.cell (i:=3) hg3) (hb4.cell (i:=4) hg4) (hb4.cell (i:=5) hg5) (hb4.cell (i:=6) hg6) (hb4.cell (i:=7) hg7) (hb4.cell (i:=8) hg8) (hb5.cell (i:=0) rfl) (kindNil 2 ⟨by decide,by decide⟩ _ ρ 0) (TyR.step (TWH.out.step.trans hsx) _ HV.out.ty) (HG.out.step (TWH.out.step.trans hsx)) hw hb4.lt hb5.lt).mono ?_;rintro e Wn ⟨he,hb⟩;rw [HRR.out] at he;subst he;have HSc:=Hd.mk (hsx.of_below hb);clear hb hbx hsa hsx hb4 hb5 hw))
   all_goals go_wp2
   all_goals go_ret
   all_goals exact ⟨rfl,(TWH.out.step.trans HSc.out).toBelow⟩
  ·have hli:¬((ag.length:Nat):Int)=2:=by omega
   have hlb:(((ag.length:Nat):Int) == 2)=false:=by simpa using hli
   have y5s:W.cell? ⟨X5,0,none⟩=some (.slice G ag.length cg):=TWH.out.b5.cell (i:=0) rfl
   have l4:=TWH.out.b4.lt
   have l5:=TWH.out.b5.lt
   have hrr:r=false:=by rw [←HR.out];exact typedC_11n hop hl
   clear hl
   subst hrr
   go_quiet (skip)
   have HSQ:=Hd.mk (TWH.out.step.drewN nq)
   generalize W.drewN nq=Wq at *
   go_wp2
   go_ret
   exact ⟨rfl,HSQ.out.toBelow⟩
 ·by_cases hk:s.ty.kind=8
  ·have hlen:=formed1_many (m:=1) HF.out hk (fun n len=>by simp [manyOf])
   have hget:s.ty.args[0]? =some s.ty.args[0]:=List.getElem?_eq_getElem (by omega)
   generalize s.ty.args[0]=x0 at hget
   have HGET:=Hd.mk hget
   have HKK:=Hd.mk hk
   have HVT:=Hd.mk HV.out.ty
   obtain ⟨mS,_,_,_,hnS,hcsS,_,_,_,_,hTS,_,_⟩:=TyR.shape HVT.out
   simp only [List.cons.injEq,and_true,true_and] at hcsS
   obtain ⟨rfl,rfl,rfl⟩:=hcsS
   obtain ⟨bG,oG,mG,E0,g0,E1,g1,E2,g2,hSA,hmG,hRG,hTG,hcG⟩:=(hTS.step TWH.out.step).elemC (k:=0) HGET.out
   subst hSA
   have HSRC:=Hd.mk (hRG.mono (show mS≤n by omega))
   have p0:W.cell? ⟨bG,oG,none⟩=some (.int .i64 x0.kind):=by have h:=hcG 0 _ rfl;rw [show oG+0*7+0=oG by omega] at h;exact h
   have p1:W.cell? ⟨bG,oG+1,none⟩=some (.int .i64 x0.n):=by have h:=hcG 1 _ rfl;rw [show oG+0*7+1=oG+1 by omega] at h;exact h
   have p2:W.cell? ⟨bG,oG+2,none⟩=some (.string x0.name):=by have h:=hcG 2 _ rfl;rw [show oG+0*7+2=oG+2 by omega] at h;exact h
   have p3:W.cell? ⟨bG,oG+3,none⟩=some (.slice E0 x0.args.length g0):=by have h:=hcG 3 _ rfl;rw [show oG+0*7+3=oG+3 by omega] at h;exact h
   have p4:W.cell? ⟨bG,oG+4,none⟩=some (.int .i64 x0.region):=by have h:=hcG 4 _ rfl;rw [show oG+0*7+4=oG+4 by omega] at h;exact h
   have p5:W.cell? ⟨bG,oG+5,none⟩=some (.slice E1 x0.eff.regs.length g1):=by have h:=hcG 5 _ rfl;rw [show oG+0*7+5=oG+5 by omega] at h;exact h
   have p6:W.cell? ⟨bG,oG+6,none⟩=some (.slice E2 x0.eff.vars.length g2):=by have h:=hcG 6 _ rfl;rw [show oG+0*7+6=oG+6 by omega] at h;exact h
   have lG:bG<W.heap.size:=World.block_lt_of_cell? W ⟨bG,_,none⟩ p0
   have hlen2:(0:Int)<((s.ty.args.length:Nat):Int):=by omega
   have hlenN:0<s.ty.args.length:=by omega
   clear hk hget hRG hTG hcG hmG hTS hnS hlen HVT
   have hkb:(s.ty.kind == 8)=true:=by simpa using HKK.out
   have hkd:decide (s.ty.kind=8)=true:=by simpa using HKK.out
   have y2:W.cell? ⟨w.heap.size,2,none⟩=some (.int .i64 s.ty.kind):=TWH.out.b4.cell (i:=2) hg2
   have y3:W.cell? ⟨w.heap.size,3,none⟩=some (.int .i64 s.ty.n):=TWH.out.b4.cell (i:=3) hg3
   have y4:W.cell? ⟨w.heap.size,4,none⟩=some (.string s.ty.name):=TWH.out.b4.cell (i:=4) hg4
   have y5:W.cell? ⟨w.heap.size,5,none⟩=some (.slice (some ⟨bG,oG,none⟩) s.ty.args.length s0):=TWH.out.b4.cell (i:=5) hg5
   have y6:W.cell? ⟨w.heap.size,6,none⟩=some (.int .i64 s.ty.region):=TWH.out.b4.cell (i:=6) hg6
   have y7:W.cell? ⟨w.heap.size,7,none⟩=some (.slice S1 s.ty.eff.regs.length s1):=TWH.out.b4.cell (i:=7) hg7
   have y8:W.cell? ⟨w.heap.size,8,none⟩=some (.slice S2 s.ty.eff.vars.length s2):=TWH.out.b4.cell (i:=8) hg8
   have y5s:W.cell? ⟨X5,0,none⟩=some (.slice G ag.length cg):=TWH.out.b5.cell (i:=0) rfl
   have z70:W.cell? ⟨X7,0,none⟩=some (.int .i64 0):=TWH.out.b7.cell (i:=0) rfl
   have z71:W.cell? ⟨X7,1,none⟩=some (.int .i64 0):=TWH.out.b7.cell (i:=1) rfl
   have z72:W.cell? ⟨X7,2,none⟩=some (.string ⟨#[]⟩):=TWH.out.b7.cell (i:=2) rfl
   have z73:W.cell? ⟨X7,3,none⟩=some (.slice none 0 0):=TWH.out.b7.cell (i:=3) rfl
   have z74:W.cell? ⟨X7,4,none⟩=some (.int .i64 0):=TWH.out.b7.cell (i:=4) rfl
   have z75:W.cell? ⟨X7,5,none⟩=some (.slice none 0 0):=TWH.out.b7.cell (i:=5) rfl
   have z76:W.cell? ⟨X7,6,none⟩=some (.slice none 0 0):=TWH.out.b7.cell (i:=6) rfl
   have l4:=TWH.out.b4.lt
   have l5:=TWH.out.b5.lt
   have l7:=TWH.out.b7.lt
   have HFW:=Hd.mk (TWH.out.step.fresh HFR.out)
   have HRR:Hd ((sameL [s.ty] [s.ty] && sameL ag [intT,x0])=r):=⟨by rw [←HR.out];exact (typedC_12 hop HKK.out HGET.out).symm ▸ rfl⟩
   have HSc:=Hd.mk ((Step.refl (fun _=>False) W ρ).drew)
   go_region_held3 (fun wv=>Step (fun _=>False) W ρ wv ρ∧∀ a:Addr,a.block<W.heap.size→wv.cell? a=W.cell? a) (first|exact keepS_of HSc.out|exact keepS_of (HSc.out.alloc _)) (first|(go_at_call 49;have hbx:=Blk.new W.drew [.int .i64 0, .int .i64 0, .string ⟨#[]⟩, .slice none 0 0, .int .i64 0, .slice none 0 0, .slice none 0 0, .int .i64 x0.kind, .int .i64 x0.n, .string x0.name, .slice E0 x0.args.length g0, .int .i64 x0.region, .slice E1 x0.eff.regs.length g1, .slice E2 x0.eff.vars.length g2] 43;have hsa:=(Step.refl (fun _=>False) W.drew ρ).alloc (.cells ([.int .i64 0, .int .i64 0, .string ⟨#[]⟩, .slice none 0 0, .int .i64 0, .slice none 0 0, .slice none 0 0, .int .i64 x0.kind, .int .i64 x0.n, .string x0.name, .slice E0 x0.args.length g0, .int .i64 x0.region, .slice E1 x0.eff.regs.length g1, .slice E2 x0.eff.vars.length g2]:List Value).toArray 43);have hsx:=HSc.out.trans hsa;have hb4:=hsx.blk TWH.out.b4 (fun _ _ h=>h);have hb5:=hsx.blk TWH.out.b5 (fun _ _ h=>h);have hw:=TysR.box (n:=n+1) (c:=2) (l:=[intT,x0]) hbx (HFW.out _ HSc.out.size) (((FlatR.nil 7 _).snoc rfl (kindNil 0 ⟨by decide,by decide⟩ _ ρ (n))).snoc rfl ((TyR.step hsx _ HSRC.out).mono (by omega))) rfl (by simp);refine (asked_any _ ρ n n q (n+1) w.heap.size X5 s.ty s.ty ag [intT,x0] (some ⟨bG,oG,none⟩) S1 S2 (some ⟨bG,oG,none⟩) S1 S2 G (some ⟨W.drew.heap.size,0,none⟩) s0 s1 s2 s0 s1 s2 cg 2 (hsx.fresh HFW.out) (hb4.cell (i:=2) hg2) (hb4.cell (i:=3) hg3) (hb4.cell (i:=4) hg4) (hb4.cell (i:=5) hg5) (hb4.cell (i:=6) hg6) (hb4.cell (i:=7) hg7) (hb4.cell (i:=8) hg8) (hb5.cell (i:=0) rfl) (TyR.step (TWH.out.step.trans hsx) _ HV.out.ty) (TyR.step (TWH.out.step.trans hsx) _ HV.out.ty) (HG.out.step (TWH.out.step.trans hsx)) hw hb4.lt hb5.lt).mono ?_;rintro e Wn ⟨he,hb⟩;rw [HRR.out] at he;subst he;have HSc:=Hd.mk (hsx.of_below hb);clear hb hbx hsa hsx hb4 hb5 hw))
   all_goals go_wp2
   all_goals go_ret
   all_goals exact ⟨rfl,(TWH.out.step.trans HSc.out).toBelow⟩
  ·have hkb:(s.ty.kind == 8)=false:=by simpa using hk
   have y2:W.cell? ⟨w.heap.size,2,none⟩=some (.int .i64 s.ty.kind):=TWH.out.b4.cell (i:=2) hg2
   have y5s:W.cell? ⟨X5,0,none⟩=some (.slice G ag.length cg):=TWH.out.b5.cell (i:=0) rfl
   have l4:=TWH.out.b4.lt
   have l5:=TWH.out.b5.lt
   have hrr:r=false:=by rw [←HR.out];exact typedC_12n hop hk
   subst hrr
   go_quiet (skip)
   have HSQ:=Hd.mk (TWH.out.step.drewN nq)
   generalize W.drewN nq=Wq at *
   go_wp2
   go_ret
   exact ⟨rfl,HSQ.out.toBelow⟩
 ·obtain ⟨A1,q1,A2,q2,A3,q3,k0,k1,k2,k6,kD,kF⟩:=(HK.out.step TWH.out.step).out
  have yC:W.cell? ⟨C,1,none⟩=some (.slice A2 p.exns.length q2):=(HC.out.step TWH.out.step (fun _ _ h=>h)).cell k1
  have lC:C<W.heap.size:=(HC.out.step TWH.out.step (fun _ _ h=>h)).lt
  have y11:W.cell? ⟨w.heap.size,11,none⟩=some (.int .i64 s.code):=TWH.out.b4.cell (i:=11) (by rw [←HCE.out];rfl)
  clear k0 k1 k2 k6 kD kF
  by_cases h0:s.code<0
  ·have h0':¬0≤s.code:=by omega
   have y5s:W.cell? ⟨X5,0,none⟩=some (.slice G ag.length cg):=TWH.out.b5.cell (i:=0) rfl
   have l4:=TWH.out.b4.lt
   have l5:=TWH.out.b5.lt
   have hrr:r=false:=by rw [←HR.out];rw [typedC_16 hop];simp [h0']
   subst hrr
   go_quiet (skip)
   have HSQ:=Hd.mk (TWH.out.step.drewN nq)
   generalize W.drewN nq=Wq at *
   go_wp2
   go_ret
   exact ⟨rfl,HSQ.out.toBelow⟩
  ·by_cases h1:s.code<p.exns.length
   ·have h0':0≤s.code:=by omega
    have H0:=Hd.mk h0'
    have H1:=Hd.mk h1
    have y2:W.cell? ⟨w.heap.size,2,none⟩=some (.int .i64 s.ty.kind):=TWH.out.b4.cell (i:=2) hg2
    have y3:W.cell? ⟨w.heap.size,3,none⟩=some (.int .i64 s.ty.n):=TWH.out.b4.cell (i:=3) hg3
    have y4:W.cell? ⟨w.heap.size,4,none⟩=some (.string s.ty.name):=TWH.out.b4.cell (i:=4) hg4
    have y5:W.cell? ⟨w.heap.size,5,none⟩=some (.slice S0 s.ty.args.length s0):=TWH.out.b4.cell (i:=5) hg5
    have y6:W.cell? ⟨w.heap.size,6,none⟩=some (.int .i64 s.ty.region):=TWH.out.b4.cell (i:=6) hg6
    have y7:W.cell? ⟨w.heap.size,7,none⟩=some (.slice S1 s.ty.eff.regs.length s1):=TWH.out.b4.cell (i:=7) hg7
    have y8:W.cell? ⟨w.heap.size,8,none⟩=some (.slice S2 s.ty.eff.vars.length s2):=TWH.out.b4.cell (i:=8) hg8
    have y5s:W.cell? ⟨X5,0,none⟩=some (.slice G ag.length cg):=TWH.out.b5.cell (i:=0) rfl
    have z70:W.cell? ⟨X7,0,none⟩=some (.int .i64 0):=TWH.out.b7.cell (i:=0) rfl
    have z71:W.cell? ⟨X7,1,none⟩=some (.int .i64 0):=TWH.out.b7.cell (i:=1) rfl
    have z72:W.cell? ⟨X7,2,none⟩=some (.string ⟨#[]⟩):=TWH.out.b7.cell (i:=2) rfl
    have z73:W.cell? ⟨X7,3,none⟩=some (.slice none 0 0):=TWH.out.b7.cell (i:=3) rfl
    have z74:W.cell? ⟨X7,4,none⟩=some (.int .i64 0):=TWH.out.b7.cell (i:=4) rfl
    have z75:W.cell? ⟨X7,5,none⟩=some (.slice none 0 0):=TWH.out.b7.cell (i:=5) rfl
    have z76:W.cell? ⟨X7,6,none⟩=some (.slice none 0 0):=TWH.out.b7.cell (i:=6) rfl
    have l4:=TWH.out.b4.lt
    have l5:=TWH.out.b5.lt
    have l7:=TWH.out.b7.lt
    have HFW:=Hd.mk (TWH.out.step.fresh HFR.out)
    have HRR:Hd ((sameL [s.ty] [s.ty] && sameL ag [intT])=r):=⟨by rw [←HR.out];have:=typedC_16 (p:=p) (ag:=ag) hop;rw [this];simp [H0.out,H1.out];rfl⟩
    have HSc:=Hd.mk ((Step.refl (fun _=>False) W ρ).drew)
    go_region_held3 (fun wv=>Step (fun _=>False) W ρ wv ρ∧∀ a:Addr,a.block<W.heap.size→wv.cell? a=W.cell? a) (first|exact keepS_of HSc.out|exact keepS_of (HSc.out.alloc _)) (first|(go_at_call 49;have hbx:=Blk.new W.drew [.int .i64 0, .int .i64 0, .string ⟨#[]⟩, .slice none 0 0, .int .i64 0, .slice none 0 0, .slice none 0 0] 43;have hsa:=(Step.refl (fun _=>False) W.drew ρ).alloc (.cells ([.int .i64 0, .int .i64 0, .string ⟨#[]⟩, .slice none 0 0, .int .i64 0, .slice none 0 0, .slice none 0 0]:List Value).toArray 43);have hsx:=HSc.out.trans hsa;have hb4:=hsx.blk TWH.out.b4 (fun _ _ h=>h);have hb5:=hsx.blk TWH.out.b5 (fun _ _ h=>h);have hw:=TysR.box (n:=n+1) (c:=1) (l:=[intT]) hbx (HFW.out _ HSc.out.size) ((FlatR.nil 7 _).snoc rfl (kindNil 0 ⟨by decide,by decide⟩ _ ρ (n))) rfl (by simp);refine (asked_any _ ρ n n q (n+1) w.heap.size X5 s.ty s.ty ag [intT] S0 S1 S2 S0 S1 S2 G (some ⟨W.drew.heap.size,0,none⟩) s0 s1 s2 s0 s1 s2 cg 1 (hsx.fresh HFW.out) (hb4.cell (i:=2) hg2) (hb4.cell (i:=3) hg3) (hb4.cell (i:=4) hg4) (hb4.cell (i:=5) hg5) (hb4.cell (i:=6) hg6) (hb4.cell (i:=7) hg7) (hb4.cell (i:=8) hg8) (hb5.cell (i:=0) rfl) (TyR.step (TWH.out.step.trans hsx) _ HV.out.ty) (TyR.step (TWH.out.step.trans hsx) _ HV.out.ty) (HG.out.step (TWH.out.step.trans hsx)) hw hb4.lt hb5.lt).mono ?_;rintro e Wn ⟨he,hb⟩;rw [HRR.out] at he;subst he;have HSc:=Hd.mk (hsx.of_below hb);clear hb hbx hsa hsx hb4 hb5 hw))
    all_goals go_wp2
    all_goals go_ret
    all_goals exact ⟨rfl,(TWH.out.step.trans HSc.out).toBelow⟩
   ·have h0':0≤s.code:=by omega
    have y5s:W.cell? ⟨X5,0,none⟩=some (.slice G ag.length cg):=TWH.out.b5.cell (i:=0) rfl
    have l4:=TWH.out.b4.lt
    have l5:=TWH.out.b5.lt
    have hrr:r=false:=by rw [←HR.out];rw [typedC_16 hop];simp [h1]
    subst hrr
    go_quiet (skip)
    have HSQ:=Hd.mk (TWH.out.step.drewN nq)
    generalize W.drewN nq=Wq at *
    go_wp2
    go_ret
    exact ⟨rfl,HSQ.out.toBelow⟩
end Go.Proofs.Ytadffbgbndibpaa
