/- TiC, TiE: lemmas and walks of the claim. -/
import Derived.Test.YtadffbgbndibpaaKTiD
set_option linter.unusedVariables false
set_option linter.unusedSimpArgs false
set_option maxHeartbeats 16000000
set_option maxRecDepth 100000
namespace Go.Proofs.Ytadffbgbndibpaa
section
open Go Go.RowKit
theorem tiny_any (w:World):Calls Try.prog 14 #[] w fun e w'=>∃ v2 v3,e= .returned (.agg #[.slice none 0 0,v2,v3, .int .i64 0])∧PgR w' NoG 3 tinyP [.slice none 0 0,v2,v3, .int .i64 0]∧Below w.heap.size w w':=by
 go_enter Try.func14,Try.ntmps14
 have HB0:Hd (Blk (w.alloc (.cells #[.slice none 0 0, .slice none 0 0, .slice none 0 0, .int .i64 0] 26)) w.heap.size 26 [.slice none 0 0, .slice none 0 0, .slice none 0 0, .int .i64 0]):=⟨Blk.new' _ _ _⟩
 have HS:=Hd.mk ((Step.refl (fun _=>False) w NoG).alloc (.cells #[.slice none 0 0, .slice none 0 0, .slice none 0 0, .int .i64 0] 26))
 go_wp2_with (first|(refine wpList_buildV rfl 43 _ rfl _ rfl #[.int .i64 0, .int .i64 0, .string ⟨#[]⟩, .slice none 0 0, .int .i64 0, .slice none 0 0, .slice none 0 0] (by kernel_rfl) ?_)|(refine wpList_store_newX rfl 43 _ _ rfl _ #[.int .i64 0, .int .i64 0, .string ⟨#[]⟩, .slice none 0 0, .int .i64 0, .slice none 0 0, .slice none 0 0] _ rfl (by first|rfl|simp) rfl (by kernel_rfl) (by kernel_rfl) (by kernel_rfl) ?_))
 refine ⟨?_⟩
 have b1:Blk ((w.alloc (.cells #[.slice none 0 0, .slice none 0 0, .slice none 0 0, .int .i64 0] 26)).alloc (.cells #[.int .i64 0, .int .i64 0, .string ⟨#[]⟩, .slice none 0 0, .int .i64 0, .slice none 0 0, .slice none 0 0] 43)) (w.alloc (.cells #[.slice none 0 0, .slice none 0 0, .slice none 0 0, .int .i64 0] 26)).heap.size 43 [.int .i64 0, .int .i64 0, .string ⟨#[]⟩, .slice none 0 0, .int .i64 0, .slice none 0 0, .slice none 0 0]:=Blk.new' _ _ _
 replace HS:=Hd.mk (HS.out.alloc (.cells #[.int .i64 0, .int .i64 0, .string ⟨#[]⟩, .slice none 0 0, .int .i64 0, .slice none 0 0, .slice none 0 0] 43))
 replace HB0:=Hd.mk (HB0.out.alloc (.cells #[.int .i64 0, .int .i64 0, .string ⟨#[]⟩, .slice none 0 0, .int .i64 0, .slice none 0 0, .slice none 0 0] 43))
 rw [show (w.alloc (.cells #[.slice none 0 0, .slice none 0 0, .slice none 0 0, .int .i64 0] 26)).heap.size=w.heap.size+1 by simp] at b1
 have HB1:=Hd.mk b1
 clear b1
 generalize (w.alloc (.cells #[.slice none 0 0, .slice none 0 0, .slice none 0 0, .int .i64 0] 26)).alloc (.cells #[.int .i64 0, .int .i64 0, .string ⟨#[]⟩, .slice none 0 0, .int .i64 0, .slice none 0 0, .slice none 0 0] 43)=W1 at *
 generalize w.heap.size+1=X1 at *
 go_wp2_with (first|(refine wpList_load_mid rfl 43 _ rfl X1 0 rfl [.int .i64 0, .int .i64 0, .string ⟨#[]⟩, .slice none 0 0, .int .i64 0, .slice none 0 0, .slice none 0 0] _ (fun j v hv=>(by rw [Nat.zero_add];exact HB1.out.cell hv)) Try.underlying43 rfl (by kernel_rfl) ?_)|(refine wpList_buildSliceH rfl 38 2 _ rfl _ rfl 3 Try.underlying38 (.int .i64 0) 1 (by kernel_rfl) (by decide) (by decide) #[.int .i64 0, .int .i64 1] (by kernel_rfl) ?_))
 refine ⟨?_⟩
 have b2:Blk (W1.alloc (.cells #[.int .i64 0, .int .i64 1] 3)) W1.heap.size 3 [.int .i64 0, .int .i64 1]:=Blk.new' _ _ _
 replace HS:=Hd.mk (HS.out.alloc (.cells #[.int .i64 0, .int .i64 1] 3))
 replace HB0:=Hd.mk (HB0.out.alloc (.cells #[.int .i64 0, .int .i64 1] 3))
 replace HB1:=Hd.mk (HB1.out.alloc (.cells #[.int .i64 0, .int .i64 1] 3))
 have HB2:=Hd.mk b2
 clear b2
 generalize W1.alloc (.cells #[.int .i64 0, .int .i64 1] 3)=W2 at *
 generalize W1.heap.size=X2 at *
 go_wp2_with (first|(refine wpList_buildV rfl 94 _ rfl _ rfl #[.int .i64 22, .int .i64 2, .int .i64 0, .int .i64 0, .string ⟨#[]⟩, .slice none 0 0, .int .i64 0, .slice none 0 0, .slice none 0 0, .slice (some ⟨X2,0,none⟩) 2 2, .int .i64 0, .int .i64 0, .slice none 0 0, .slice none 0 0, .slice none 0 0, .slice none 0 0, .int .i64 0, .slice none 0 0, .slice none 0 0] (by kernel_rfl) ?_)|(refine wpList_buildRowsA rfl 44 1 _ rfl [[.int .i64 22, .int .i64 2, .int .i64 0, .int .i64 0, .string ⟨#[]⟩, .slice none 0 0, .int .i64 0, .slice none 0 0, .slice none 0 0, .slice (some ⟨X2,0,none⟩) 2 2, .int .i64 0, .int .i64 0, .slice none 0 0, .slice none 0 0, .slice none 0 0, .slice none 0 0, .int .i64 0, .slice none 0 0, .slice none 0 0]] (by kernel_rfl) 94 Try.underlying44 (.agg #[.int .i64 0, .int .i64 0, .int .i64 0, .int .i64 0, .string ⟨#[]⟩, .slice none 0 0, .int .i64 0, .slice none 0 0, .slice none 0 0, .slice none 0 0, .int .i64 0, .int .i64 0, .slice none 0 0, .slice none 0 0, .slice none 0 0, .slice none 0 0, .int .i64 0, .slice none 0 0, .slice none 0 0]) 19 (by kernel_rfl) (by decide) (by decide) rfl (by kernel_rfl) ?_))
 refine ⟨?_⟩
 unfold AllW
 intro W3 X3 hW hX
 have HB3:Hd (Blk W3 X3 94 ([[.int .i64 22, .int .i64 2, .int .i64 0, .int .i64 0, .string ⟨#[]⟩, .slice none 0 0, .int .i64 0, .slice none 0 0, .slice none 0 0, .slice (some ⟨X2,0,none⟩) 2 2, .int .i64 0, .int .i64 0, .slice none 0 0, .slice none 0 0, .slice none 0 0, .slice none 0 0, .int .i64 0, .slice none 0 0, .slice none 0 0]]:List (List Value)).flatten):=⟨by rw [hW,hX];exact Blk.new _ _ _⟩
 replace HS:Hd (Step (fun _=>False) w NoG W3 NoG):=⟨by rw [hW];exact HS.out.alloc _⟩
 replace HB0:Hd (Blk W3 w.heap.size 26 [.slice none 0 0, .slice none 0 0, .slice none 0 0, .int .i64 0]):=⟨by rw [hW];exact HB0.out.alloc _⟩
 replace HB1:Hd (Blk W3 X1 43 [.int .i64 0, .int .i64 0, .string ⟨#[]⟩, .slice none 0 0, .int .i64 0, .slice none 0 0, .slice none 0 0]):=⟨by rw [hW];exact HB1.out.alloc _⟩
 replace HB2:Hd (Blk W3 X2 3 [.int .i64 0, .int .i64 1]):=⟨by rw [hW];exact HB2.out.alloc _⟩
 clear hW hX
 go_wp2_with (first|(refine wpList_buildV rfl 46 _ rfl _ rfl #[.int .i64 0, .slice none 0 0, .slice (some ⟨X3,0,none⟩) 1 1, .int .i64 2] (by kernel_rfl) ?_)|(refine wpList_store_newX rfl 46 _ _ rfl _ #[.int .i64 0, .slice none 0 0, .slice (some ⟨X3,0,none⟩) 1 1, .int .i64 2] _ rfl (by first|rfl|simp) rfl (by kernel_rfl) (by kernel_rfl) (by kernel_rfl) ?_))
 refine ⟨?_⟩
 have b4:Blk (W3.alloc (.cells #[.int .i64 0, .slice none 0 0, .slice (some ⟨X3,0,none⟩) 1 1, .int .i64 2] 46)) W3.heap.size 46 [.int .i64 0, .slice none 0 0, .slice (some ⟨X3,0,none⟩) 1 1, .int .i64 2]:=Blk.new' _ _ _
 replace HS:=Hd.mk (HS.out.alloc (.cells #[.int .i64 0, .slice none 0 0, .slice (some ⟨X3,0,none⟩) 1 1, .int .i64 2] 46))
 replace HB0:=Hd.mk (HB0.out.alloc (.cells #[.int .i64 0, .slice none 0 0, .slice (some ⟨X3,0,none⟩) 1 1, .int .i64 2] 46))
 replace HB1:=Hd.mk (HB1.out.alloc (.cells #[.int .i64 0, .slice none 0 0, .slice (some ⟨X3,0,none⟩) 1 1, .int .i64 2] 46))
 replace HB2:=Hd.mk (HB2.out.alloc (.cells #[.int .i64 0, .slice none 0 0, .slice (some ⟨X3,0,none⟩) 1 1, .int .i64 2] 46))
 replace HB3:=Hd.mk (HB3.out.alloc (.cells #[.int .i64 0, .slice none 0 0, .slice (some ⟨X3,0,none⟩) 1 1, .int .i64 2] 46))
 have HB4:=Hd.mk b4
 clear b4
 generalize W3.alloc (.cells #[.int .i64 0, .slice none 0 0, .slice (some ⟨X3,0,none⟩) 1 1, .int .i64 2] 46)=W4 at *
 generalize W3.heap.size=X4 at *
 go_wp2_with (first|(refine wpList_load_mid rfl 46 _ rfl X4 0 rfl [.int .i64 0, .slice none 0 0, .slice (some ⟨X3,0,none⟩) 1 1, .int .i64 2] _ (fun j v hv=>(by rw [Nat.zero_add];exact HB4.out.cell hv)) Try.underlying46 rfl (by kernel_rfl) ?_)|(refine wpList_buildSliceH rfl 38 1 _ rfl _ rfl 3 Try.underlying38 (.int .i64 0) 1 (by kernel_rfl) (by decide) (by decide) #[.int .i64 3] (by kernel_rfl) ?_))
 refine ⟨?_⟩
 have b5:Blk (W4.alloc (.cells #[.int .i64 3] 3)) W4.heap.size 3 [.int .i64 3]:=Blk.new' _ _ _
 replace HS:=Hd.mk (HS.out.alloc (.cells #[.int .i64 3] 3))
 replace HB0:=Hd.mk (HB0.out.alloc (.cells #[.int .i64 3] 3))
 replace HB1:=Hd.mk (HB1.out.alloc (.cells #[.int .i64 3] 3))
 replace HB2:=Hd.mk (HB2.out.alloc (.cells #[.int .i64 3] 3))
 replace HB3:=Hd.mk (HB3.out.alloc (.cells #[.int .i64 3] 3))
 replace HB4:=Hd.mk (HB4.out.alloc (.cells #[.int .i64 3] 3))
 have HB5:=Hd.mk b5
 clear b5
 generalize W4.alloc (.cells #[.int .i64 3] 3)=W5 at *
 generalize W4.heap.size=X5 at *
 go_wp2_with (first|(refine wpList_buildV rfl 46 _ rfl _ rfl #[.int .i64 0, .slice (some ⟨X5,0,none⟩) 1 1, .slice none 0 0, .int .i64 3] (by kernel_rfl) ?_)|(refine wpList_buildSliceH rfl 38 1 _ rfl _ rfl 3 Try.underlying38 (.int .i64 0) 1 (by kernel_rfl) (by decide) (by decide) #[.int .i64 4] (by kernel_rfl) ?_))
 refine ⟨?_⟩
 have b6:Blk (W5.alloc (.cells #[.int .i64 4] 3)) W5.heap.size 3 [.int .i64 4]:=Blk.new' _ _ _
 replace HS:=Hd.mk (HS.out.alloc (.cells #[.int .i64 4] 3))
 replace HB0:=Hd.mk (HB0.out.alloc (.cells #[.int .i64 4] 3))
 replace HB1:=Hd.mk (HB1.out.alloc (.cells #[.int .i64 4] 3))
 replace HB2:=Hd.mk (HB2.out.alloc (.cells #[.int .i64 4] 3))
 replace HB3:=Hd.mk (HB3.out.alloc (.cells #[.int .i64 4] 3))
 replace HB4:=Hd.mk (HB4.out.alloc (.cells #[.int .i64 4] 3))
 replace HB5:=Hd.mk (HB5.out.alloc (.cells #[.int .i64 4] 3))
 have HB6:=Hd.mk b6
 clear b6
 generalize W5.alloc (.cells #[.int .i64 4] 3)=W6 at *
 generalize W5.heap.size=X6 at *
 go_wp2_with (first|(refine wpList_buildV rfl 46 _ rfl _ rfl #[.int .i64 0, .slice (some ⟨X6,0,none⟩) 1 1, .slice none 0 0, .int .i64 4] (by kernel_rfl) ?_)|(refine wpList_buildRowsA rfl 92 3 _ rfl [[.int .i64 0, .slice none 0 0, .slice (some ⟨X3,0,none⟩) 1 1, .int .i64 2],[.int .i64 0, .slice (some ⟨X5,0,none⟩) 1 1, .slice none 0 0, .int .i64 3],[.int .i64 0, .slice (some ⟨X6,0,none⟩) 1 1, .slice none 0 0, .int .i64 4]] (by kernel_rfl) 46 Try.underlying92 (.agg #[.int .i64 0, .slice none 0 0, .slice none 0 0, .int .i64 0]) 4 (by kernel_rfl) (by decide) (by decide) rfl (by kernel_rfl) ?_))
 refine ⟨?_⟩
 unfold AllW
 intro W7 X7 hW hX
 have HB7:Hd (Blk W7 X7 46 ([[.int .i64 0, .slice none 0 0, .slice (some ⟨X3,0,none⟩) 1 1, .int .i64 2],[.int .i64 0, .slice (some ⟨X5,0,none⟩) 1 1, .slice none 0 0, .int .i64 3],[.int .i64 0, .slice (some ⟨X6,0,none⟩) 1 1, .slice none 0 0, .int .i64 4]]:List (List Value)).flatten):=⟨by rw [hW,hX];exact Blk.new _ _ _⟩
 replace HS:Hd (Step (fun _=>False) w NoG W7 NoG):=⟨by rw [hW];exact HS.out.alloc _⟩
 replace HB0:Hd (Blk W7 w.heap.size 26 [.slice none 0 0, .slice none 0 0, .slice none 0 0, .int .i64 0]):=⟨by rw [hW];exact HB0.out.alloc _⟩
 replace HB1:Hd (Blk W7 X1 43 [.int .i64 0, .int .i64 0, .string ⟨#[]⟩, .slice none 0 0, .int .i64 0, .slice none 0 0, .slice none 0 0]):=⟨by rw [hW];exact HB1.out.alloc _⟩
 replace HB2:Hd (Blk W7 X2 3 [.int .i64 0, .int .i64 1]):=⟨by rw [hW];exact HB2.out.alloc _⟩
 replace HB3:Hd (Blk W7 X3 94 ([[.int .i64 22, .int .i64 2, .int .i64 0, .int .i64 0, .string ⟨#[]⟩, .slice none 0 0, .int .i64 0, .slice none 0 0, .slice none 0 0, .slice (some ⟨X2,0,none⟩) 2 2, .int .i64 0, .int .i64 0, .slice none 0 0, .slice none 0 0, .slice none 0 0, .slice none 0 0, .int .i64 0, .slice none 0 0, .slice none 0 0]]:List (List Value)).flatten):=⟨by rw [hW];exact HB3.out.alloc _⟩
 replace HB4:Hd (Blk W7 X4 46 [.int .i64 0, .slice none 0 0, .slice (some ⟨X3,0,none⟩) 1 1, .int .i64 2]):=⟨by rw [hW];exact HB4.out.alloc _⟩
 replace HB5:Hd (Blk W7 X5 3 [.int .i64 3]):=⟨by rw [hW];exact HB5.out.alloc _⟩
 replace HB6:Hd (Blk W7 X6 3 [.int .i64 4]):=⟨by rw [hW];exact HB6.out.alloc _⟩
 clear hW hX
 go_wp2_with (first|(refine wpList_load_mid rfl 43 _ rfl X1 0 rfl [.int .i64 0, .int .i64 0, .string ⟨#[]⟩, .slice none 0 0, .int .i64 0, .slice none 0 0, .slice none 0 0] _ (fun j v hv=>(by rw [Nat.zero_add];exact HB1.out.cell hv)) Try.underlying43 rfl (by kernel_rfl) ?_)|(refine wpList_buildH rfl 94 _ rfl _ rfl #[.int .i64 0, .int .i64 1, .int .i64 0, .int .i64 0, .string ⟨#[]⟩, .slice none 0 0, .int .i64 0, .slice none 0 0, .slice none 0 0, .slice none 0 0, .int .i64 0, .int .i64 0, .slice none 0 0, .slice none 0 0, .slice none 0 0, .slice none 0 0, .int .i64 0, .slice none 0 0, .slice none 0 0] (by kernel_rfl) ?_))
 refine ⟨?_⟩
 go_wp2_with (first|(refine wpList_load_mid rfl 43 _ rfl X1 0 rfl [.int .i64 0, .int .i64 0, .string ⟨#[]⟩, .slice none 0 0, .int .i64 0, .slice none 0 0, .slice none 0 0] _ (fun j v hv=>(by rw [Nat.zero_add];exact HB1.out.cell hv)) Try.underlying43 rfl (by kernel_rfl) ?_)|(refine wpList_buildH rfl 94 _ rfl _ rfl #[.int .i64 17, .int .i64 5, .int .i64 0, .int .i64 0, .string ⟨#[]⟩, .slice none 0 0, .int .i64 0, .slice none 0 0, .slice none 0 0, .slice none 0 0, .int .i64 0, .int .i64 0, .slice none 0 0, .slice none 0 0, .slice none 0 0, .slice none 0 0, .int .i64 0, .slice none 0 0, .slice (some ⟨X7,0,none⟩) 3 3] (by kernel_rfl) ?_))
 refine ⟨?_⟩
 go_wp2_with (first|(refine wpList_buildV rfl 43 _ rfl _ rfl #[.int .i64 2, .int .i64 0, .string ⟨#[]⟩, .slice none 0 0, .int .i64 0, .slice none 0 0, .slice none 0 0] (by kernel_rfl) ?_)|(refine wpList_buildSliceH rfl 38 1 _ rfl _ rfl 3 Try.underlying38 (.int .i64 0) 1 (by kernel_rfl) (by decide) (by decide) #[.int .i64 0] (by kernel_rfl) ?_))
 refine ⟨?_⟩
 have b8:Blk (W7.alloc (.cells #[.int .i64 0] 3)) W7.heap.size 3 [.int .i64 0]:=Blk.new' _ _ _
 replace HS:=Hd.mk (HS.out.alloc (.cells #[.int .i64 0] 3))
 replace HB0:=Hd.mk (HB0.out.alloc (.cells #[.int .i64 0] 3))
 replace HB1:=Hd.mk (HB1.out.alloc (.cells #[.int .i64 0] 3))
 replace HB2:=Hd.mk (HB2.out.alloc (.cells #[.int .i64 0] 3))
 replace HB3:=Hd.mk (HB3.out.alloc (.cells #[.int .i64 0] 3))
 replace HB4:=Hd.mk (HB4.out.alloc (.cells #[.int .i64 0] 3))
 replace HB5:=Hd.mk (HB5.out.alloc (.cells #[.int .i64 0] 3))
 replace HB6:=Hd.mk (HB6.out.alloc (.cells #[.int .i64 0] 3))
 replace HB7:=Hd.mk (HB7.out.alloc (.cells #[.int .i64 0] 3))
 have HB8:=Hd.mk b8
 clear b8
 generalize W7.alloc (.cells #[.int .i64 0] 3)=W8 at *
 generalize W7.heap.size=X8 at *
 go_wp2_with (first|(refine wpList_buildV rfl 94 _ rfl _ rfl #[.int .i64 18, .int .i64 6, .int .i64 2, .int .i64 0, .string ⟨#[]⟩, .slice none 0 0, .int .i64 0, .slice none 0 0, .slice none 0 0, .slice (some ⟨X8,0,none⟩) 1 1, .int .i64 0, .int .i64 0, .slice none 0 0, .slice none 0 0, .slice none 0 0, .slice none 0 0, .int .i64 0, .slice none 0 0, .slice none 0 0] (by kernel_rfl) ?_)|(refine wpList_buildRowsA rfl 44 3 _ rfl [[.int .i64 0, .int .i64 1, .int .i64 0, .int .i64 0, .string ⟨#[]⟩, .slice none 0 0, .int .i64 0, .slice none 0 0, .slice none 0 0, .slice none 0 0, .int .i64 0, .int .i64 0, .slice none 0 0, .slice none 0 0, .slice none 0 0, .slice none 0 0, .int .i64 0, .slice none 0 0, .slice none 0 0],[.int .i64 17, .int .i64 5, .int .i64 0, .int .i64 0, .string ⟨#[]⟩, .slice none 0 0, .int .i64 0, .slice none 0 0, .slice none 0 0, .slice none 0 0, .int .i64 0, .int .i64 0, .slice none 0 0, .slice none 0 0, .slice none 0 0, .slice none 0 0, .int .i64 0, .slice none 0 0, .slice (some ⟨X7,0,none⟩) 3 3],[.int .i64 18, .int .i64 6, .int .i64 2, .int .i64 0, .string ⟨#[]⟩, .slice none 0 0, .int .i64 0, .slice none 0 0, .slice none 0 0, .slice (some ⟨X8,0,none⟩) 1 1, .int .i64 0, .int .i64 0, .slice none 0 0, .slice none 0 0, .slice none 0 0, .slice none 0 0, .int .i64 0, .slice none 0 0, .slice none 0 0]] (by kernel_rfl) 94 Try.underlying44 (.agg #[.int .i64 0, .int .i64 0, .int .i64 0, .int .i64 0, .string ⟨#[]⟩, .slice none 0 0, .int .i64 0, .slice none 0 0, .slice none 0 0, .slice none 0 0, .int .i64 0, .int .i64 0, .slice none 0 0, .slice none 0 0, .slice none 0 0, .slice none 0 0, .int .i64 0, .slice none 0 0, .slice none 0 0]) 19 (by kernel_rfl) (by decide) (by decide) rfl (by kernel_rfl) ?_))
 refine ⟨?_⟩
 unfold AllW
 intro W9 X9 hW hX
 have HB9:Hd (Blk W9 X9 94 ([[.int .i64 0, .int .i64 1, .int .i64 0, .int .i64 0, .string ⟨#[]⟩, .slice none 0 0, .int .i64 0, .slice none 0 0, .slice none 0 0, .slice none 0 0, .int .i64 0, .int .i64 0, .slice none 0 0, .slice none 0 0, .slice none 0 0, .slice none 0 0, .int .i64 0, .slice none 0 0, .slice none 0 0],[.int .i64 17, .int .i64 5, .int .i64 0, .int .i64 0, .string ⟨#[]⟩, .slice none 0 0, .int .i64 0, .slice none 0 0, .slice none 0 0, .slice none 0 0, .int .i64 0, .int .i64 0, .slice none 0 0, .slice none 0 0, .slice none 0 0, .slice none 0 0, .int .i64 0, .slice none 0 0, .slice (some ⟨X7,0,none⟩) 3 3],[.int .i64 18, .int .i64 6, .int .i64 2, .int .i64 0, .string ⟨#[]⟩, .slice none 0 0, .int .i64 0, .slice none 0 0, .slice none 0 0, .slice (some ⟨X8,0,none⟩) 1 1, .int .i64 0, .int .i64 0, .slice none 0 0, .slice none 0 0, .slice none 0 0, .slice none 0 0, .int .i64 0, .slice none 0 0, .slice none 0 0]]:List (List Value)).flatten):=⟨by rw [hW,hX];exact Blk.new _ _ _⟩
 replace HS:Hd (Step (fun _=>False) w NoG W9 NoG):=⟨by rw [hW];exact HS.out.alloc _⟩
 replace HB0:Hd (Blk W9 w.heap.size 26 [.slice none 0 0, .slice none 0 0, .slice none 0 0, .int .i64 0]):=⟨by rw [hW];exact HB0.out.alloc _⟩
 replace HB1:Hd (Blk W9 X1 43 [.int .i64 0, .int .i64 0, .string ⟨#[]⟩, .slice none 0 0, .int .i64 0, .slice none 0 0, .slice none 0 0]):=⟨by rw [hW];exact HB1.out.alloc _⟩
 replace HB2:Hd (Blk W9 X2 3 [.int .i64 0, .int .i64 1]):=⟨by rw [hW];exact HB2.out.alloc _⟩
 replace HB3:Hd (Blk W9 X3 94 ([[.int .i64 22, .int .i64 2, .int .i64 0, .int .i64 0, .string ⟨#[]⟩, .slice none 0 0, .int .i64 0, .slice none 0 0, .slice none 0 0, .slice (some ⟨X2,0,none⟩) 2 2, .int .i64 0, .int .i64 0, .slice none 0 0, .slice none 0 0, .slice none 0 0, .slice none 0 0, .int .i64 0, .slice none 0 0, .slice none 0 0]]:List (List Value)).flatten):=⟨by rw [hW];exact HB3.out.alloc _⟩
 replace HB4:Hd (Blk W9 X4 46 [.int .i64 0, .slice none 0 0, .slice (some ⟨X3,0,none⟩) 1 1, .int .i64 2]):=⟨by rw [hW];exact HB4.out.alloc _⟩
 replace HB5:Hd (Blk W9 X5 3 [.int .i64 3]):=⟨by rw [hW];exact HB5.out.alloc _⟩
 replace HB6:Hd (Blk W9 X6 3 [.int .i64 4]):=⟨by rw [hW];exact HB6.out.alloc _⟩
 replace HB7:Hd (Blk W9 X7 46 ([[.int .i64 0, .slice none 0 0, .slice (some ⟨X3,0,none⟩) 1 1, .int .i64 2],[.int .i64 0, .slice (some ⟨X5,0,none⟩) 1 1, .slice none 0 0, .int .i64 3],[.int .i64 0, .slice (some ⟨X6,0,none⟩) 1 1, .slice none 0 0, .int .i64 4]]:List (List Value)).flatten):=⟨by rw [hW];exact HB7.out.alloc _⟩
 replace HB8:Hd (Blk W9 X8 3 [.int .i64 0]):=⟨by rw [hW];exact HB8.out.alloc _⟩
 clear hW hX
 go_wp2_with (first|(refine wpList_load_mid rfl 43 _ rfl X1 0 rfl [.int .i64 0, .int .i64 0, .string ⟨#[]⟩, .slice none 0 0, .int .i64 0, .slice none 0 0, .slice none 0 0] _ (fun j v hv=>(by rw [Nat.zero_add];exact HB1.out.cell hv)) Try.underlying43 rfl (by kernel_rfl) ?_)|(refine wpList_buildRowsA rfl 41 1 _ rfl [[.int .i64 0, .int .i64 0, .string ⟨#[]⟩, .slice none 0 0, .int .i64 0, .slice none 0 0, .slice none 0 0]] (by kernel_rfl) 43 Try.underlying41 (.agg #[.int .i64 0, .int .i64 0, .string ⟨#[]⟩, .slice none 0 0, .int .i64 0, .slice none 0 0, .slice none 0 0]) 7 (by kernel_rfl) (by decide) (by decide) rfl (by kernel_rfl) ?_))
 refine ⟨?_⟩
 unfold AllW
 intro W10 X10 hW hX
 have HB10:Hd (Blk W10 X10 43 ([[.int .i64 0, .int .i64 0, .string ⟨#[]⟩, .slice none 0 0, .int .i64 0, .slice none 0 0, .slice none 0 0]]:List (List Value)).flatten):=⟨by rw [hW,hX];exact Blk.new _ _ _⟩
 replace HS:Hd (Step (fun _=>False) w NoG W10 NoG):=⟨by rw [hW];exact HS.out.alloc _⟩
 replace HB0:Hd (Blk W10 w.heap.size 26 [.slice none 0 0, .slice none 0 0, .slice none 0 0, .int .i64 0]):=⟨by rw [hW];exact HB0.out.alloc _⟩
 replace HB1:Hd (Blk W10 X1 43 [.int .i64 0, .int .i64 0, .string ⟨#[]⟩, .slice none 0 0, .int .i64 0, .slice none 0 0, .slice none 0 0]):=⟨by rw [hW];exact HB1.out.alloc _⟩
 replace HB2:Hd (Blk W10 X2 3 [.int .i64 0, .int .i64 1]):=⟨by rw [hW];exact HB2.out.alloc _⟩
 replace HB3:Hd (Blk W10 X3 94 ([[.int .i64 22, .int .i64 2, .int .i64 0, .int .i64 0, .string ⟨#[]⟩, .slice none 0 0, .int .i64 0, .slice none 0 0, .slice none 0 0, .slice (some ⟨X2,0,none⟩) 2 2, .int .i64 0, .int .i64 0, .slice none 0 0, .slice none 0 0, .slice none 0 0, .slice none 0 0, .int .i64 0, .slice none 0 0, .slice none 0 0]]:List (List Value)).flatten):=⟨by rw [hW];exact HB3.out.alloc _⟩
 replace HB4:Hd (Blk W10 X4 46 [.int .i64 0, .slice none 0 0, .slice (some ⟨X3,0,none⟩) 1 1, .int .i64 2]):=⟨by rw [hW];exact HB4.out.alloc _⟩
 replace HB5:Hd (Blk W10 X5 3 [.int .i64 3]):=⟨by rw [hW];exact HB5.out.alloc _⟩
 replace HB6:Hd (Blk W10 X6 3 [.int .i64 4]):=⟨by rw [hW];exact HB6.out.alloc _⟩
 replace HB7:Hd (Blk W10 X7 46 ([[.int .i64 0, .slice none 0 0, .slice (some ⟨X3,0,none⟩) 1 1, .int .i64 2],[.int .i64 0, .slice (some ⟨X5,0,none⟩) 1 1, .slice none 0 0, .int .i64 3],[.int .i64 0, .slice (some ⟨X6,0,none⟩) 1 1, .slice none 0 0, .int .i64 4]]:List (List Value)).flatten):=⟨by rw [hW];exact HB7.out.alloc _⟩
 replace HB8:Hd (Blk W10 X8 3 [.int .i64 0]):=⟨by rw [hW];exact HB8.out.alloc _⟩
 replace HB9:Hd (Blk W10 X9 94 ([[.int .i64 0, .int .i64 1, .int .i64 0, .int .i64 0, .string ⟨#[]⟩, .slice none 0 0, .int .i64 0, .slice none 0 0, .slice none 0 0, .slice none 0 0, .int .i64 0, .int .i64 0, .slice none 0 0, .slice none 0 0, .slice none 0 0, .slice none 0 0, .int .i64 0, .slice none 0 0, .slice none 0 0],[.int .i64 17, .int .i64 5, .int .i64 0, .int .i64 0, .string ⟨#[]⟩, .slice none 0 0, .int .i64 0, .slice none 0 0, .slice none 0 0, .slice none 0 0, .int .i64 0, .int .i64 0, .slice none 0 0, .slice none 0 0, .slice none 0 0, .slice none 0 0, .int .i64 0, .slice none 0 0, .slice (some ⟨X7,0,none⟩) 3 3],[.int .i64 18, .int .i64 6, .int .i64 2, .int .i64 0, .string ⟨#[]⟩, .slice none 0 0, .int .i64 0, .slice none 0 0, .slice none 0 0, .slice (some ⟨X8,0,none⟩) 1 1, .int .i64 0, .int .i64 0, .slice none 0 0, .slice none 0 0, .slice none 0 0, .slice none 0 0, .int .i64 0, .slice none 0 0, .slice none 0 0]]:List (List Value)).flatten):=⟨by rw [hW];exact HB9.out.alloc _⟩
 clear hW hX
 go_wp2_with (first|(refine wpList_load_mid rfl 43 _ rfl X1 0 rfl [.int .i64 0, .int .i64 0, .string ⟨#[]⟩, .slice none 0 0, .int .i64 0, .slice none 0 0, .slice none 0 0] _ (fun j v hv=>(by rw [Nat.zero_add];exact HB1.out.cell hv)) Try.underlying43 rfl (by kernel_rfl) ?_)|(refine wpList_buildV rfl 46 _ rfl _ rfl #[.int .i64 0, .slice none 0 0, .slice (some ⟨X9,0,none⟩) 3 3, .int .i64 5] (by kernel_rfl) ?_)|(refine wpList_buildV rfl 48 _ rfl _ rfl #[.string ⟨#[109,97,105,110]⟩, .int .i64 0, .int .i64 0, .int .i64 0, .int .i64 0, .slice none 0 0, .slice none 0 0, .slice (some ⟨X10,0,none⟩) 1 1, .int .i64 0, .int .i64 0, .string ⟨#[]⟩, .slice none 0 0, .int .i64 0, .slice none 0 0, .slice none 0 0, .int .i64 0, .slice none 0 0, .slice (some ⟨X9,0,none⟩) 3 3, .int .i64 5] (by kernel_rfl) ?_)|(refine wpList_store_newX rfl 48 _ _ rfl _ #[.string ⟨#[109,97,105,110]⟩, .int .i64 0, .int .i64 0, .int .i64 0, .int .i64 0, .slice none 0 0, .slice none 0 0, .slice (some ⟨X10,0,none⟩) 1 1, .int .i64 0, .int .i64 0, .string ⟨#[]⟩, .slice none 0 0, .int .i64 0, .slice none 0 0, .slice none 0 0, .int .i64 0, .slice none 0 0, .slice (some ⟨X9,0,none⟩) 3 3, .int .i64 5] _ rfl (by first|rfl|simp) rfl (by kernel_rfl) (by kernel_rfl) (by kernel_rfl) ?_))
 refine ⟨?_⟩
 have b11:Blk (W10.alloc (.cells #[.string ⟨#[109,97,105,110]⟩, .int .i64 0, .int .i64 0, .int .i64 0, .int .i64 0, .slice none 0 0, .slice none 0 0, .slice (some ⟨X10,0,none⟩) 1 1, .int .i64 0, .int .i64 0, .string ⟨#[]⟩, .slice none 0 0, .int .i64 0, .slice none 0 0, .slice none 0 0, .int .i64 0, .slice none 0 0, .slice (some ⟨X9,0,none⟩) 3 3, .int .i64 5] 48)) W10.heap.size 48 [.string ⟨#[109,97,105,110]⟩, .int .i64 0, .int .i64 0, .int .i64 0, .int .i64 0, .slice none 0 0, .slice none 0 0, .slice (some ⟨X10,0,none⟩) 1 1, .int .i64 0, .int .i64 0, .string ⟨#[]⟩, .slice none 0 0, .int .i64 0, .slice none 0 0, .slice none 0 0, .int .i64 0, .slice none 0 0, .slice (some ⟨X9,0,none⟩) 3 3, .int .i64 5]:=Blk.new' _ _ _
 replace HS:=Hd.mk (HS.out.alloc (.cells #[.string ⟨#[109,97,105,110]⟩, .int .i64 0, .int .i64 0, .int .i64 0, .int .i64 0, .slice none 0 0, .slice none 0 0, .slice (some ⟨X10,0,none⟩) 1 1, .int .i64 0, .int .i64 0, .string ⟨#[]⟩, .slice none 0 0, .int .i64 0, .slice none 0 0, .slice none 0 0, .int .i64 0, .slice none 0 0, .slice (some ⟨X9,0,none⟩) 3 3, .int .i64 5] 48))
 replace HB0:=Hd.mk (HB0.out.alloc (.cells #[.string ⟨#[109,97,105,110]⟩, .int .i64 0, .int .i64 0, .int .i64 0, .int .i64 0, .slice none 0 0, .slice none 0 0, .slice (some ⟨X10,0,none⟩) 1 1, .int .i64 0, .int .i64 0, .string ⟨#[]⟩, .slice none 0 0, .int .i64 0, .slice none 0 0, .slice none 0 0, .int .i64 0, .slice none 0 0, .slice (some ⟨X9,0,none⟩) 3 3, .int .i64 5] 48))
 replace HB1:=Hd.mk (HB1.out.alloc (.cells #[.string ⟨#[109,97,105,110]⟩, .int .i64 0, .int .i64 0, .int .i64 0, .int .i64 0, .slice none 0 0, .slice none 0 0, .slice (some ⟨X10,0,none⟩) 1 1, .int .i64 0, .int .i64 0, .string ⟨#[]⟩, .slice none 0 0, .int .i64 0, .slice none 0 0, .slice none 0 0, .int .i64 0, .slice none 0 0, .slice (some ⟨X9,0,none⟩) 3 3, .int .i64 5] 48))
 replace HB2:=Hd.mk (HB2.out.alloc (.cells #[.string ⟨#[109,97,105,110]⟩, .int .i64 0, .int .i64 0, .int .i64 0, .int .i64 0, .slice none 0 0, .slice none 0 0, .slice (some ⟨X10,0,none⟩) 1 1, .int .i64 0, .int .i64 0, .string ⟨#[]⟩, .slice none 0 0, .int .i64 0, .slice none 0 0, .slice none 0 0, .int .i64 0, .slice none 0 0, .slice (some ⟨X9,0,none⟩) 3 3, .int .i64 5] 48))
 replace HB3:=Hd.mk (HB3.out.alloc (.cells #[.string ⟨#[109,97,105,110]⟩, .int .i64 0, .int .i64 0, .int .i64 0, .int .i64 0, .slice none 0 0, .slice none 0 0, .slice (some ⟨X10,0,none⟩) 1 1, .int .i64 0, .int .i64 0, .string ⟨#[]⟩, .slice none 0 0, .int .i64 0, .slice none 0 0, .slice none 0 0, .int .i64 0, .slice none 0 0, .slice (some ⟨X9,0,none⟩) 3 3, .int .i64 5] 48))
 replace HB4:=Hd.mk (HB4.out.alloc (.cells #[.string ⟨#[109,97,105,110]⟩, .int .i64 0, .int .i64 0, .int .i64 0, .int .i64 0, .slice none 0 0, .slice none 0 0, .slice (some ⟨X10,0,none⟩) 1 1, .int .i64 0, .int .i64 0, .string ⟨#[]⟩, .slice none 0 0, .int .i64 0, .slice none 0 0, .slice none 0 0, .int .i64 0, .slice none 0 0, .slice (some ⟨X9,0,none⟩) 3 3, .int .i64 5] 48))
 replace HB5:=Hd.mk (HB5.out.alloc (.cells #[.string ⟨#[109,97,105,110]⟩, .int .i64 0, .int .i64 0, .int .i64 0, .int .i64 0, .slice none 0 0, .slice none 0 0, .slice (some ⟨X10,0,none⟩) 1 1, .int .i64 0, .int .i64 0, .string ⟨#[]⟩, .slice none 0 0, .int .i64 0, .slice none 0 0, .slice none 0 0, .int .i64 0, .slice none 0 0, .slice (some ⟨X9,0,none⟩) 3 3, .int .i64 5] 48))
 replace HB6:=Hd.mk (HB6.out.alloc (.cells #[.string ⟨#[109,97,105,110]⟩, .int .i64 0, .int .i64 0, .int .i64 0, .int .i64 0, .slice none 0 0, .slice none 0 0, .slice (some ⟨X10,0,none⟩) 1 1, .int .i64 0, .int .i64 0, .string ⟨#[]⟩, .slice none 0 0, .int .i64 0, .slice none 0 0, .slice none 0 0, .int .i64 0, .slice none 0 0, .slice (some ⟨X9,0,none⟩) 3 3, .int .i64 5] 48))
 replace HB7:=Hd.mk (HB7.out.alloc (.cells #[.string ⟨#[109,97,105,110]⟩, .int .i64 0, .int .i64 0, .int .i64 0, .int .i64 0, .slice none 0 0, .slice none 0 0, .slice (some ⟨X10,0,none⟩) 1 1, .int .i64 0, .int .i64 0, .string ⟨#[]⟩, .slice none 0 0, .int .i64 0, .slice none 0 0, .slice none 0 0, .int .i64 0, .slice none 0 0, .slice (some ⟨X9,0,none⟩) 3 3, .int .i64 5] 48))
 replace HB8:=Hd.mk (HB8.out.alloc (.cells #[.string ⟨#[109,97,105,110]⟩, .int .i64 0, .int .i64 0, .int .i64 0, .int .i64 0, .slice none 0 0, .slice none 0 0, .slice (some ⟨X10,0,none⟩) 1 1, .int .i64 0, .int .i64 0, .string ⟨#[]⟩, .slice none 0 0, .int .i64 0, .slice none 0 0, .slice none 0 0, .int .i64 0, .slice none 0 0, .slice (some ⟨X9,0,none⟩) 3 3, .int .i64 5] 48))
 replace HB9:=Hd.mk (HB9.out.alloc (.cells #[.string ⟨#[109,97,105,110]⟩, .int .i64 0, .int .i64 0, .int .i64 0, .int .i64 0, .slice none 0 0, .slice none 0 0, .slice (some ⟨X10,0,none⟩) 1 1, .int .i64 0, .int .i64 0, .string ⟨#[]⟩, .slice none 0 0, .int .i64 0, .slice none 0 0, .slice none 0 0, .int .i64 0, .slice none 0 0, .slice (some ⟨X9,0,none⟩) 3 3, .int .i64 5] 48))
 replace HB10:=Hd.mk (HB10.out.alloc (.cells #[.string ⟨#[109,97,105,110]⟩, .int .i64 0, .int .i64 0, .int .i64 0, .int .i64 0, .slice none 0 0, .slice none 0 0, .slice (some ⟨X10,0,none⟩) 1 1, .int .i64 0, .int .i64 0, .string ⟨#[]⟩, .slice none 0 0, .int .i64 0, .slice none 0 0, .slice none 0 0, .int .i64 0, .slice none 0 0, .slice (some ⟨X9,0,none⟩) 3 3, .int .i64 5] 48))
 have HB11:=Hd.mk b11
 clear b11
 generalize W10.alloc (.cells #[.string ⟨#[109,97,105,110]⟩, .int .i64 0, .int .i64 0, .int .i64 0, .int .i64 0, .slice none 0 0, .slice none 0 0, .slice (some ⟨X10,0,none⟩) 1 1, .int .i64 0, .int .i64 0, .string ⟨#[]⟩, .slice none 0 0, .int .i64 0, .slice none 0 0, .slice none 0 0, .int .i64 0, .slice none 0 0, .slice (some ⟨X9,0,none⟩) 3 3, .int .i64 5] 48)=W11 at *
 generalize W10.heap.size=X11 at *
 go_wp2_with (first|(refine wpList_buildSliceH rfl 23 3 _ rfl _ rfl 9 Try.underlying23 (.string ⟨#[]⟩) 1 (by kernel_rfl) (by decide) (by decide) #[.string ⟨#[68,105,118]⟩, .string ⟨#[73,110,100,101,120]⟩, .string ⟨#[83,105,122,101]⟩] (by kernel_rfl) ?_))
 refine ⟨?_⟩
 have b12:Blk (W11.alloc (.cells #[.string ⟨#[68,105,118]⟩, .string ⟨#[73,110,100,101,120]⟩, .string ⟨#[83,105,122,101]⟩] 9)) W11.heap.size 9 [.string ⟨#[68,105,118]⟩, .string ⟨#[73,110,100,101,120]⟩, .string ⟨#[83,105,122,101]⟩]:=Blk.new' _ _ _
 replace HS:=Hd.mk (HS.out.alloc (.cells #[.string ⟨#[68,105,118]⟩, .string ⟨#[73,110,100,101,120]⟩, .string ⟨#[83,105,122,101]⟩] 9))
 replace HB0:=Hd.mk (HB0.out.alloc (.cells #[.string ⟨#[68,105,118]⟩, .string ⟨#[73,110,100,101,120]⟩, .string ⟨#[83,105,122,101]⟩] 9))
 replace HB1:=Hd.mk (HB1.out.alloc (.cells #[.string ⟨#[68,105,118]⟩, .string ⟨#[73,110,100,101,120]⟩, .string ⟨#[83,105,122,101]⟩] 9))
 replace HB2:=Hd.mk (HB2.out.alloc (.cells #[.string ⟨#[68,105,118]⟩, .string ⟨#[73,110,100,101,120]⟩, .string ⟨#[83,105,122,101]⟩] 9))
 replace HB3:=Hd.mk (HB3.out.alloc (.cells #[.string ⟨#[68,105,118]⟩, .string ⟨#[73,110,100,101,120]⟩, .string ⟨#[83,105,122,101]⟩] 9))
 replace HB4:=Hd.mk (HB4.out.alloc (.cells #[.string ⟨#[68,105,118]⟩, .string ⟨#[73,110,100,101,120]⟩, .string ⟨#[83,105,122,101]⟩] 9))
 replace HB5:=Hd.mk (HB5.out.alloc (.cells #[.string ⟨#[68,105,118]⟩, .string ⟨#[73,110,100,101,120]⟩, .string ⟨#[83,105,122,101]⟩] 9))
 replace HB6:=Hd.mk (HB6.out.alloc (.cells #[.string ⟨#[68,105,118]⟩, .string ⟨#[73,110,100,101,120]⟩, .string ⟨#[83,105,122,101]⟩] 9))
 replace HB7:=Hd.mk (HB7.out.alloc (.cells #[.string ⟨#[68,105,118]⟩, .string ⟨#[73,110,100,101,120]⟩, .string ⟨#[83,105,122,101]⟩] 9))
 replace HB8:=Hd.mk (HB8.out.alloc (.cells #[.string ⟨#[68,105,118]⟩, .string ⟨#[73,110,100,101,120]⟩, .string ⟨#[83,105,122,101]⟩] 9))
 replace HB9:=Hd.mk (HB9.out.alloc (.cells #[.string ⟨#[68,105,118]⟩, .string ⟨#[73,110,100,101,120]⟩, .string ⟨#[83,105,122,101]⟩] 9))
 replace HB10:=Hd.mk (HB10.out.alloc (.cells #[.string ⟨#[68,105,118]⟩, .string ⟨#[73,110,100,101,120]⟩, .string ⟨#[83,105,122,101]⟩] 9))
 replace HB11:=Hd.mk (HB11.out.alloc (.cells #[.string ⟨#[68,105,118]⟩, .string ⟨#[73,110,100,101,120]⟩, .string ⟨#[83,105,122,101]⟩] 9))
 have HB12:=Hd.mk b12
 clear b12
 generalize W11.alloc (.cells #[.string ⟨#[68,105,118]⟩, .string ⟨#[73,110,100,101,120]⟩, .string ⟨#[83,105,122,101]⟩] 9)=W12 at *
 generalize W11.heap.size=X12 at *
 go_wp2_with (first|(refine wpList_load_mid rfl 48 _ rfl X11 0 rfl [.string ⟨#[109,97,105,110]⟩, .int .i64 0, .int .i64 0, .int .i64 0, .int .i64 0, .slice none 0 0, .slice none 0 0, .slice (some ⟨X10,0,none⟩) 1 1, .int .i64 0, .int .i64 0, .string ⟨#[]⟩, .slice none 0 0, .int .i64 0, .slice none 0 0, .slice none 0 0, .int .i64 0, .slice none 0 0, .slice (some ⟨X9,0,none⟩) 3 3, .int .i64 5] _ (fun j v hv=>(by rw [Nat.zero_add];exact HB11.out.cell hv)) Try.underlying48 rfl (by kernel_rfl) ?_)|(refine wpList_buildRowsA rfl 24 1 _ rfl [[.string ⟨#[109,97,105,110]⟩, .int .i64 0, .int .i64 0, .int .i64 0, .int .i64 0, .slice none 0 0, .slice none 0 0, .slice (some ⟨X10,0,none⟩) 1 1, .int .i64 0, .int .i64 0, .string ⟨#[]⟩, .slice none 0 0, .int .i64 0, .slice none 0 0, .slice none 0 0, .int .i64 0, .slice none 0 0, .slice (some ⟨X9,0,none⟩) 3 3, .int .i64 5]] (by kernel_rfl) 48 Try.underlying24 (.agg #[.string ⟨#[]⟩, .int .i64 0, .int .i64 0, .int .i64 0, .int .i64 0, .slice none 0 0, .slice none 0 0, .slice none 0 0, .int .i64 0, .int .i64 0, .string ⟨#[]⟩, .slice none 0 0, .int .i64 0, .slice none 0 0, .slice none 0 0, .int .i64 0, .slice none 0 0, .slice none 0 0, .int .i64 0]) 19 (by kernel_rfl) (by decide) (by decide) rfl (by kernel_rfl) ?_))
 refine ⟨?_⟩
 unfold AllW
 intro W13 X13 hW hX
 have HB13:Hd (Blk W13 X13 48 ([[.string ⟨#[109,97,105,110]⟩, .int .i64 0, .int .i64 0, .int .i64 0, .int .i64 0, .slice none 0 0, .slice none 0 0, .slice (some ⟨X10,0,none⟩) 1 1, .int .i64 0, .int .i64 0, .string ⟨#[]⟩, .slice none 0 0, .int .i64 0, .slice none 0 0, .slice none 0 0, .int .i64 0, .slice none 0 0, .slice (some ⟨X9,0,none⟩) 3 3, .int .i64 5]]:List (List Value)).flatten):=⟨by rw [hW,hX];exact Blk.new _ _ _⟩
 replace HS:Hd (Step (fun _=>False) w NoG W13 NoG):=⟨by rw [hW];exact HS.out.alloc _⟩
 replace HB0:Hd (Blk W13 w.heap.size 26 [.slice none 0 0, .slice none 0 0, .slice none 0 0, .int .i64 0]):=⟨by rw [hW];exact HB0.out.alloc _⟩
 replace HB1:Hd (Blk W13 X1 43 [.int .i64 0, .int .i64 0, .string ⟨#[]⟩, .slice none 0 0, .int .i64 0, .slice none 0 0, .slice none 0 0]):=⟨by rw [hW];exact HB1.out.alloc _⟩
 replace HB2:Hd (Blk W13 X2 3 [.int .i64 0, .int .i64 1]):=⟨by rw [hW];exact HB2.out.alloc _⟩
 replace HB3:Hd (Blk W13 X3 94 ([[.int .i64 22, .int .i64 2, .int .i64 0, .int .i64 0, .string ⟨#[]⟩, .slice none 0 0, .int .i64 0, .slice none 0 0, .slice none 0 0, .slice (some ⟨X2,0,none⟩) 2 2, .int .i64 0, .int .i64 0, .slice none 0 0, .slice none 0 0, .slice none 0 0, .slice none 0 0, .int .i64 0, .slice none 0 0, .slice none 0 0]]:List (List Value)).flatten):=⟨by rw [hW];exact HB3.out.alloc _⟩
 replace HB4:Hd (Blk W13 X4 46 [.int .i64 0, .slice none 0 0, .slice (some ⟨X3,0,none⟩) 1 1, .int .i64 2]):=⟨by rw [hW];exact HB4.out.alloc _⟩
 replace HB5:Hd (Blk W13 X5 3 [.int .i64 3]):=⟨by rw [hW];exact HB5.out.alloc _⟩
 replace HB6:Hd (Blk W13 X6 3 [.int .i64 4]):=⟨by rw [hW];exact HB6.out.alloc _⟩
 replace HB7:Hd (Blk W13 X7 46 ([[.int .i64 0, .slice none 0 0, .slice (some ⟨X3,0,none⟩) 1 1, .int .i64 2],[.int .i64 0, .slice (some ⟨X5,0,none⟩) 1 1, .slice none 0 0, .int .i64 3],[.int .i64 0, .slice (some ⟨X6,0,none⟩) 1 1, .slice none 0 0, .int .i64 4]]:List (List Value)).flatten):=⟨by rw [hW];exact HB7.out.alloc _⟩
 replace HB8:Hd (Blk W13 X8 3 [.int .i64 0]):=⟨by rw [hW];exact HB8.out.alloc _⟩
 replace HB9:Hd (Blk W13 X9 94 ([[.int .i64 0, .int .i64 1, .int .i64 0, .int .i64 0, .string ⟨#[]⟩, .slice none 0 0, .int .i64 0, .slice none 0 0, .slice none 0 0, .slice none 0 0, .int .i64 0, .int .i64 0, .slice none 0 0, .slice none 0 0, .slice none 0 0, .slice none 0 0, .int .i64 0, .slice none 0 0, .slice none 0 0],[.int .i64 17, .int .i64 5, .int .i64 0, .int .i64 0, .string ⟨#[]⟩, .slice none 0 0, .int .i64 0, .slice none 0 0, .slice none 0 0, .slice none 0 0, .int .i64 0, .int .i64 0, .slice none 0 0, .slice none 0 0, .slice none 0 0, .slice none 0 0, .int .i64 0, .slice none 0 0, .slice (some ⟨X7,0,none⟩) 3 3],[.int .i64 18, .int .i64 6, .int .i64 2, .int .i64 0, .string ⟨#[]⟩, .slice none 0 0, .int .i64 0, .slice none 0 0, .slice none 0 0, .slice (some ⟨X8,0,none⟩) 1 1, .int .i64 0, .int .i64 0, .slice none 0 0, .slice none 0 0, .slice none 0 0, .slice none 0 0, .int .i64 0, .slice none 0 0, .slice none 0 0]]:List (List Value)).flatten):=⟨by rw [hW];exact HB9.out.alloc _⟩
 replace HB10:Hd (Blk W13 X10 43 ([[.int .i64 0, .int .i64 0, .string ⟨#[]⟩, .slice none 0 0, .int .i64 0, .slice none 0 0, .slice none 0 0]]:List (List Value)).flatten):=⟨by rw [hW];exact HB10.out.alloc _⟩
 replace HB11:Hd (Blk W13 X11 48 [.string ⟨#[109,97,105,110]⟩, .int .i64 0, .int .i64 0, .int .i64 0, .int .i64 0, .slice none 0 0, .slice none 0 0, .slice (some ⟨X10,0,none⟩) 1 1, .int .i64 0, .int .i64 0, .string ⟨#[]⟩, .slice none 0 0, .int .i64 0, .slice none 0 0, .slice none 0 0, .int .i64 0, .slice none 0 0, .slice (some ⟨X9,0,none⟩) 3 3, .int .i64 5]):=⟨by rw [hW];exact HB11.out.alloc _⟩
 replace HB12:Hd (Blk W13 X12 9 [.string ⟨#[68,105,118]⟩, .string ⟨#[73,110,100,101,120]⟩, .string ⟨#[83,105,122,101]⟩]):=⟨by rw [hW];exact HB12.out.alloc _⟩
 clear hW hX
 have hb0:=HB0.out
 have c0:=hb0.cell (i:=0) rfl
 have c1:=hb0.cell (i:=1) rfl
 have c2:=hb0.cell (i:=2) rfl
 have c3:=hb0.cell (i:=3) rfl
 have k0:=hb0.free 0
 have k1:=hb0.free 1
 have k2:=hb0.free 2
 have k3:=hb0.free 3
 have l0:=hb0.lt
 clear hb0
 go_wp2_with (refine wpList_buildV rfl 26 _ rfl _ rfl #[.slice none 0 0, .slice (some ⟨X12,0,none⟩) 3 3, .slice (some ⟨X13,0,none⟩) 1 1, .int .i64 0] (by kernel_rfl) ?_)
 have n2:X2≠w.heap.size:=fun e=>by have:=(Blk.eq HB0.out (e ▸ HB2.out)).1;exact absurd this (by decide)
 have f2:=(((HB2.out.setCell_ne (a:=⟨w.heap.size,0,none⟩) (.slice none 0 0) n2).setCell_ne (a:=⟨w.heap.size,1,none⟩) (.slice (some ⟨X12,0,none⟩) 3 3) n2).setCell_ne (a:=⟨w.heap.size,2,none⟩) (.slice (some ⟨X13,0,none⟩) 1 1) n2).setCell_ne (a:=⟨w.heap.size,3,none⟩) (.int .i64 0) n2
 have n3:X3≠w.heap.size:=fun e=>by have:=(Blk.eq HB0.out (e ▸ HB3.out)).1;exact absurd this (by decide)
 have f3:=(((HB3.out.setCell_ne (a:=⟨w.heap.size,0,none⟩) (.slice none 0 0) n3).setCell_ne (a:=⟨w.heap.size,1,none⟩) (.slice (some ⟨X12,0,none⟩) 3 3) n3).setCell_ne (a:=⟨w.heap.size,2,none⟩) (.slice (some ⟨X13,0,none⟩) 1 1) n3).setCell_ne (a:=⟨w.heap.size,3,none⟩) (.int .i64 0) n3
 have n5:X5≠w.heap.size:=fun e=>by have:=(Blk.eq HB0.out (e ▸ HB5.out)).1;exact absurd this (by decide)
 have f5:=(((HB5.out.setCell_ne (a:=⟨w.heap.size,0,none⟩) (.slice none 0 0) n5).setCell_ne (a:=⟨w.heap.size,1,none⟩) (.slice (some ⟨X12,0,none⟩) 3 3) n5).setCell_ne (a:=⟨w.heap.size,2,none⟩) (.slice (some ⟨X13,0,none⟩) 1 1) n5).setCell_ne (a:=⟨w.heap.size,3,none⟩) (.int .i64 0) n5
 have n6:X6≠w.heap.size:=fun e=>by have:=(Blk.eq HB0.out (e ▸ HB6.out)).1;exact absurd this (by decide)
 have f6:=(((HB6.out.setCell_ne (a:=⟨w.heap.size,0,none⟩) (.slice none 0 0) n6).setCell_ne (a:=⟨w.heap.size,1,none⟩) (.slice (some ⟨X12,0,none⟩) 3 3) n6).setCell_ne (a:=⟨w.heap.size,2,none⟩) (.slice (some ⟨X13,0,none⟩) 1 1) n6).setCell_ne (a:=⟨w.heap.size,3,none⟩) (.int .i64 0) n6
 have n7:X7≠w.heap.size:=fun e=>by have:=(Blk.eq HB0.out (e ▸ HB7.out)).1;exact absurd this (by decide)
 have f7:=(((HB7.out.setCell_ne (a:=⟨w.heap.size,0,none⟩) (.slice none 0 0) n7).setCell_ne (a:=⟨w.heap.size,1,none⟩) (.slice (some ⟨X12,0,none⟩) 3 3) n7).setCell_ne (a:=⟨w.heap.size,2,none⟩) (.slice (some ⟨X13,0,none⟩) 1 1) n7).setCell_ne (a:=⟨w.heap.size,3,none⟩) (.int .i64 0) n7
 have n8:X8≠w.heap.size:=fun e=>by have:=(Blk.eq HB0.out (e ▸ HB8.out)).1;exact absurd this (by decide)
 have f8:=(((HB8.out.setCell_ne (a:=⟨w.heap.size,0,none⟩) (.slice none 0 0) n8).setCell_ne (a:=⟨w.heap.size,1,none⟩) (.slice (some ⟨X12,0,none⟩) 3 3) n8).setCell_ne (a:=⟨w.heap.size,2,none⟩) (.slice (some ⟨X13,0,none⟩) 1 1) n8).setCell_ne (a:=⟨w.heap.size,3,none⟩) (.int .i64 0) n8
 have n9:X9≠w.heap.size:=fun e=>by have:=(Blk.eq HB0.out (e ▸ HB9.out)).1;exact absurd this (by decide)
 have f9:=(((HB9.out.setCell_ne (a:=⟨w.heap.size,0,none⟩) (.slice none 0 0) n9).setCell_ne (a:=⟨w.heap.size,1,none⟩) (.slice (some ⟨X12,0,none⟩) 3 3) n9).setCell_ne (a:=⟨w.heap.size,2,none⟩) (.slice (some ⟨X13,0,none⟩) 1 1) n9).setCell_ne (a:=⟨w.heap.size,3,none⟩) (.int .i64 0) n9
 have n10:X10≠w.heap.size:=fun e=>by have:=(Blk.eq HB0.out (e ▸ HB10.out)).1;exact absurd this (by decide)
 have f10:=(((HB10.out.setCell_ne (a:=⟨w.heap.size,0,none⟩) (.slice none 0 0) n10).setCell_ne (a:=⟨w.heap.size,1,none⟩) (.slice (some ⟨X12,0,none⟩) 3 3) n10).setCell_ne (a:=⟨w.heap.size,2,none⟩) (.slice (some ⟨X13,0,none⟩) 1 1) n10).setCell_ne (a:=⟨w.heap.size,3,none⟩) (.int .i64 0) n10
 have n12:X12≠w.heap.size:=fun e=>by have:=(Blk.eq HB0.out (e ▸ HB12.out)).1;exact absurd this (by decide)
 have f12:=(((HB12.out.setCell_ne (a:=⟨w.heap.size,0,none⟩) (.slice none 0 0) n12).setCell_ne (a:=⟨w.heap.size,1,none⟩) (.slice (some ⟨X12,0,none⟩) 3 3) n12).setCell_ne (a:=⟨w.heap.size,2,none⟩) (.slice (some ⟨X13,0,none⟩) 1 1) n12).setCell_ne (a:=⟨w.heap.size,3,none⟩) (.int .i64 0) n12
 have n13:X13≠w.heap.size:=fun e=>by have:=(Blk.eq HB0.out (e ▸ HB13.out)).1;exact absurd this (by decide)
 have f13:=(((HB13.out.setCell_ne (a:=⟨w.heap.size,0,none⟩) (.slice none 0 0) n13).setCell_ne (a:=⟨w.heap.size,1,none⟩) (.slice (some ⟨X12,0,none⟩) 3 3) n13).setCell_ne (a:=⟨w.heap.size,2,none⟩) (.slice (some ⟨X13,0,none⟩) 1 1) n13).setCell_ne (a:=⟨w.heap.size,3,none⟩) (.int .i64 0) n13
 refine bodyPost_ret (results_cell1 rfl _ _ w.heap.size [.slice none 0 0, .slice (some ⟨X12,0,none⟩) 3 3, .slice (some ⟨X13,0,none⟩) 1 1, .int .i64 0] rfl ((((HB0.out.setCell 0 _).setCell 1 _).setCell 2 _).setCell 3 _) Try.underlying26 rfl) rfl ?_
 exact ⟨_,_,rfl,tiny_rep _ X2 X3 X5 X6 X7 X8 X9 X10 X12 X13 f2 f3 f5 f6 f7 f8 f9 f10 f12 f13,((((HS.out.setCell_new (a:=⟨w.heap.size,0,none⟩) (Nat.le_refl _) (.slice none 0 0)).setCell_new (a:=⟨w.heap.size,1,none⟩) (Nat.le_refl _) (.slice (some ⟨X12,0,none⟩) 3 3)).setCell_new (a:=⟨w.heap.size,2,none⟩) (Nat.le_refl _) (.slice (some ⟨X13,0,none⟩) 1 1)).setCell_new (a:=⟨w.heap.size,3,none⟩) (Nat.le_refl _) (.int .i64 0)).toBelow⟩
end
section
open Go Go.RowKit
theorem tiny_sz:szDs tinyP.datas+szFs tinyP.funs≤1000000:=by decide
theorem none_sz:szDs noneP.datas+szFs noneP.funs≤1000000:=by decide
theorem head_any (w:World):Calls Try.prog 7 #[] w fun e w'=>e= .returned (.bool true)∧Below w.heap.size w w':=by
 go_enter Try.func7,Try.ntmps7
 go_wp2_with fail
 refine (tiny_any w).mono ?_
 rintro e W1 ⟨v2,v3,rfl,hR1,hb1⟩
 have HR1:=Hd.mk hR1
 have HB1:=Hd.mk hb1
 clear hR1 hb1
 go_wp2_with fail
 have hag:SlR (W1.alloc (.cells #[.int .i64 7] 2)) NoG 1 8 IntR (.slice (some ⟨W1.heap.size,0,none⟩) 1 1) [7]:=SlR.ofRows (l:=[7]) (sz:=1) (byt:=8) (R:=IntR) [[.int .i64 7]] (Blk.new' _ _ _) rfl (by simp) ⟨⟨rfl,i64_small (by decide)⟩,trivial⟩ (by decide) (by decide)
 refine (Run_any 3 _ tinyP (.slice none 0 0) v2 v3 (HR1.out.step ((Step.refl (fun _=>False) W1 NoG).alloc _)) tiny_sz _ 1 [7] hag (by decide) 10 (i64_small (by decide)) _ tiny_run).mono ?_
 rintro e W2 ⟨A,c,rfl,hO,hb2⟩
 have HO:=Hd.mk hO
 have HB2:=Hd.mk (HB1.out.trans ((((Below.refl W1.heap.size W1).alloc (Nat.le_refl _) (.cells #[.int .i64 7] 2)).trans (hb2.mono (by simp))).mono HB1.out.size))
 clear hO hb2 hag
 rw [show (roCells ⟨0,[7],0,⟨#[]⟩,0,0⟩ A c).toArray= #[.int .i64 0, .slice A 1 c, .int .i64 0, .string ⟨#[]⟩, .int .i64 0, .int .i64 0] from rfl]
 go_wp2_with fail
 have hbx:=Blk.new' W2 #[.int .i64 0, .slice A 1 c, .int .i64 0, .string ⟨#[]⟩, .int .i64 0, .int .i64 0] 34
 have HS3:=Hd.mk ((Step.refl (fun _=>False) W2 NoG).alloc (.cells #[.int .i64 0, .slice A 1 c, .int .i64 0, .string ⟨#[]⟩, .int .i64 0, .int .i64 0] 34))
 have HBX:=Hd.mk hbx
 clear hbx
 generalize W2.alloc (.cells #[.int .i64 0, .slice A 1 c, .int .i64 0, .string ⟨#[]⟩, .int .i64 0, .int .i64 0] 34)=W3 at *
 generalize W2.heap.size=X at *
 refine (tiny_any W3).mono ?_
 rintro e W4 ⟨v4,v5,rfl,hR4,hb4⟩
 have HR4:=Hd.mk hR4
 have HS4:=Hd.mk (HS3.out.of_below hb4)
 have HBX4:=Hd.mk (HBX.out.of_heap (hb4.block X HBX.out.lt))
 clear hR4 hb4
 go_wp2_with fail
 have hv:=Valid_any 3 W4 tinyP (.slice none 0 0) v4 v5 HR4.out tiny_sz
 rw [tiny_valid] at hv
 refine hv.mono ?_
 clear hv
 rintro e W5 ⟨rfl,hb5⟩
 have HS5:=Hd.mk (HS4.out.of_below hb5)
 have HBX5:=Hd.mk (HBX4.out.of_heap (hb5.block X HBX4.out.lt))
 clear hb5
 go_wp2_with fail
 have hv:=Valid_any 3 W5 noneP (.slice none 0 0) (.slice none 0 0) (.slice none 0 0) (none_rep W5) none_sz
 rw [none_valid] at hv
 refine hv.mono ?_
 clear hv
 rintro e W6 ⟨rfl,hb6⟩
 have hs6:=HS5.out.of_below hb6
 have hbx:=HBX5.out.of_heap (hb6.block X HBX5.out.lt)
 obtain ⟨g,o,cs,rfl,hcl,rfl,hcs⟩:=SlR.get (HO.out.step hs6 (fun _ _ _ h=>h)) (show [(7:Int)][0]? =some 7 from rfl)
 have c0:=hbx.cell (i:=0) rfl
 have c1:=hbx.cell (i:=1) rfl
 have c2:=hbx.cell (i:=2) rfl
 have lx:=hbx.lt
 have cg:W6.cell? ⟨g,o,none⟩=some (.int .i64 7):=by
  have:=hcs 0 _ rfl
  rw [Nat.zero_mul] at this
  exact this
 have HBB:=Hd.mk (HB2.out.trans (hs6.toBelow.mono HB2.out.size))
 clear hs6 hbx hcl hcs hb6
 go_wp2
 go_ret
 exact ⟨rfl,HBB.out⟩
end
end Go.Proofs.Ytadffbgbndibpaa
