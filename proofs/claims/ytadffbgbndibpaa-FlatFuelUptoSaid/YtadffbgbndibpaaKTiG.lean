/- TiG: lemmas and walks of the claim. -/
import Derived.Test.YtadffbgbndibpaaKTiE
set_option linter.unusedVariables false
set_option linter.unusedSimpArgs false
set_option maxHeartbeats 16000000
set_option maxRecDepth 100000
namespace Go.Proofs.Ytadffbgbndibpaa
open Go Go.RowKit
theorem wrap_plus {k n:Nat} (h:k<n) (hn:n≤9223372036854775807):wrap64 ((k:Int)+1)=((k+1:Nat):Int):=wrap_succ h hn
theorem SameResult_same (w:World) (r:RunOut) (A A':Option Addr) (c c':Nat) (h1:SlR w NoG 1 0 IntV (.slice A r.outs.length c) r.outs) (h2:SlR w NoG 1 0 IntV (.slice A' r.outs.length c') r.outs) :
 Calls Try.prog 9 #[.agg #[.int .i64 r.answer, .slice A r.outs.length c, .int .i64 r.fault, .string r.exn, .int .i64 r.payload, .int .i64 r.ticks], .agg #[.int .i64 r.answer, .slice A' r.outs.length c', .int .i64 r.fault, .string r.exn, .int .i64 r.payload, .int .i64 r.ticks]] w fun e w'=>e= .returned (.bool true)∧Below w.heap.size w w':=by
 have H1:=Hd.mk h1
 have H2:=Hd.mk h2
 obtain ⟨_,_,hq,hl1,hl2⟩:=SlR.form h1
 cases hq
 simp only [maxLen] at hl2
 have HL:Hd (r.outs.length≤9223372036854775807):=⟨by omega⟩
 clear h1 h2 hl1 hl2
 have b1:=(Blk.new' w #[.int .i64 r.answer, .slice A r.outs.length c, .int .i64 r.fault, .string r.exn, .int .i64 r.payload, .int .i64 r.ticks] 34).alloc (.cells #[.int .i64 r.answer, .slice A' r.outs.length c', .int .i64 r.fault, .string r.exn, .int .i64 r.payload, .int .i64 r.ticks] 34)
 have b2:=Blk.new' (w.alloc (.cells #[.int .i64 r.answer, .slice A r.outs.length c, .int .i64 r.fault, .string r.exn, .int .i64 r.payload, .int .i64 r.ticks] 34)) #[.int .i64 r.answer, .slice A' r.outs.length c', .int .i64 r.fault, .string r.exn, .int .i64 r.payload, .int .i64 r.ticks] 34
 rw [World.size_alloc] at b2
 have hs:=((Step.refl (fun _=>False) w NoG).alloc (.cells #[.int .i64 r.answer, .slice A r.outs.length c, .int .i64 r.fault, .string r.exn, .int .i64 r.payload, .int .i64 r.ticks] 34)).alloc (.cells #[.int .i64 r.answer, .slice A' r.outs.length c', .int .i64 r.fault, .string r.exn, .int .i64 r.payload, .int .i64 r.ticks] 34)
 have B1:=Hd.mk b1
 have B2:=Hd.mk b2
 have HS:=Hd.mk hs
 clear b1 b2 hs
 go_enter Try.func9,Try.ntmps9
 go_wp2
 generalize (w.alloc (.cells #[.int .i64 r.answer, .slice A r.outs.length c, .int .i64 r.fault, .string r.exn, .int .i64 r.payload, .int .i64 r.ticks] 34)).alloc (.cells #[.int .i64 r.answer, .slice A' r.outs.length c', .int .i64 r.fault, .string r.exn, .int .i64 r.payload, .int .i64 r.ticks] 34)=W at *
 go_loopw [5] (fun vk wr=>∃ k:Nat,vk= .int .i64 k∧k≤r.outs.length∧Step (fun _=>False) W NoG wr NoG) (fun v _=>r.outs.length-(intOf v).toNat)
 case atStart=>exact ⟨0,rfl,by omega,Step.refl _ _ _⟩
 case round =>
  obtain ⟨k,rfl,hk,hsk⟩:=hrel
  have x1:=hsk.blk B1.out (fun t ht=>by cases ht)
  have x2:=hsk.blk B2.out (fun t ht=>by cases ht)
  have f1:=x1.cell (i:=1) rfl
  have f2:=x2.cell (i:=1) rfl
  have l1:=x1.lt
  have l2:=x2.lt
  have HSK:=Hd.mk hsk
  by_cases hlt:k<r.outs.length
  ·have hlti:(k:Int)<r.outs.length:=by omega
   have hkz:(0:Int)≤k:=by omega
   have hxx:=List.getElem?_eq_getElem hlt
   generalize r.outs[k]=x at hxx
   obtain ⟨g1,o1,cs1,rfl,_,rfl,hc1⟩:=SlR.get (H1.out.step (HS.out.trans hsk) (fun _ _ _ h=>h)) hxx
   obtain ⟨g2,o2,cs2,rfl,_,rfl,hc2⟩:=SlR.get (H2.out.step (HS.out.trans hsk) (fun _ _ _ h=>h)) hxx
   have e1:wr.cell? ⟨g1,o1+k,none⟩=some (.int .i64 x):=by
    have:=hc1 0 _ rfl
    rw [Nat.mul_one,Nat.add_zero] at this
    exact this
   have e2:wr.cell? ⟨g2,o2+k,none⟩=some (.int .i64 x):=by
    have:=hc2 0 _ rfl
    rw [Nat.mul_one,Nat.add_zero] at this
    exact this
   clear hc1 hc2 hxx x1 x2 hsk
   go_wp2
   go_quiet (fail)
   go_wp2
   go_roundw
   case rel =>
    have hw:=wrap_succ hlt HL.out
    exact ⟨k+1,by first|rw [hw]|exact congrArg _ hw|rfl,hlt,HSK.out.drewN nq⟩
   case measure=>first|exact measure_succ hlt HL.out|exact measure_plus hlt
  ·have hnlt:¬((k:Int)<r.outs.length):=by omega
   clear x1 x2 hsk hlt
   go_wp2
   go_ret
   exact ⟨rfl,(HS.out.trans HSK.out).toBelow⟩
end Go.Proofs.Ytadffbgbndibpaa
