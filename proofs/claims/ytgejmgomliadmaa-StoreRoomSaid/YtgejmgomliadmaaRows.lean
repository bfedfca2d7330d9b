/-
  No cell of these rows narrows 'for every input' (looked for: loops, veiled, ifaces, maps, wideKeys, modest, calm, conditions, laid).
  DERIVED. THE GIVEN ROWS OF THIS SEAT. 4 by the template 'for every input the law returns true; each argument reads behind the call as it read before'; 0 by the template 'total and deterministic' (their statements: YtgejmgomliadmaaTotals.lean).
  GIVEN WITH THE SEED: the statements are not yours to turn. If you find one false, say at which input.
  Laid BY PROGRAM, IN A SANDBOX (cutbox-rows.mjs): the forced cells as the released guide's own fill.sh prints them over the translation fc6b98fb9c906797… (all of the seat's roots in one cut). By AI agents, Wed Nov 11 2026. No macro, syntax, notation, axiom, sorry.
-/
import Derived.Test.YtgejmgomliadmaaChecked
import GoSem.Claim
import GoSem.ClaimJoined
import GoSem.ClaimMapViews
import Derived.JoinedTies
import Derived.KernelRfl
namespace Go.Proofs.Ytgejmgomliadmaa
/- THE CELL 'sum', in the pinned program and in every row, IS THE sha256 OF THE DUMP (.gsa) THAT YtgejmgomliadmaaProg.lean LOADS. Nothing in Lean hashes anything: it is a label: what it is worth is what the hold of that sum in a sandbox is worth. -/
noncomputable def Try.pinned : Pinned := { name := "ytgejmgomliadmaa", sum := "fc6b98fb9c90679724f3f8b5f182ead34c5108595bfda387c4983f429fbbb96d", checked := Try.checked }
namespace Rows
def none {H : Type} : Left H := { results := [], args := [] }

/-- 'heriotlaw07.StoreAnswers': WHATEVER THE INPUT: true; the input reads as it did. -/
def storeAnswersSpec : ChangeSpec := { name := "storeAnswers", fn := fun _ => fun
  | [d] => { results := [.lit (.bool true)], args := [d] }
  | _ => none }
def storeAnswersRow : OpenClaim := { program := "ytgejmgomliadmaa", sum := "fc6b98fb9c90679724f3f8b5f182ead34c5108595bfda387c4983f429fbbb96d", func := "heriot/heriotlaw07.StoreAnswers", spec := "storeAnswers", inPlace := ["slices.overlaps[heriot/store.cell]"], unfollowed := true, recurses := true, apart := false }
def StoreAnswersSaid : Prop := storeAnswersRow.holds Try.pinned (OpenSpec.ofChange storeAnswersSpec)

/-- ITS FALSE NEIGHBOUR: 'it returns false'. Refute it at one input. -/
def storeAnswersWrong : ChangeSpec := { name := "storeAnswers", fn := fun _ => fun
  | [d] => { results := [.lit (.bool false)], args := [d] }
  | _ => none }
def StoreAnswersWrongFalsely : Prop := storeAnswersRow.holds Try.pinned (OpenSpec.ofChange storeAnswersWrong)

/-- 'heriotlaw07.StoreKeeps': WHATEVER THE INPUT: true; the input reads as it did. -/
def storeKeepsSpec : ChangeSpec := { name := "storeKeeps", fn := fun _ => fun
  | [d] => { results := [.lit (.bool true)], args := [d] }
  | _ => none }
def storeKeepsRow : OpenClaim := { program := "ytgejmgomliadmaa", sum := "fc6b98fb9c90679724f3f8b5f182ead34c5108595bfda387c4983f429fbbb96d", func := "heriot/heriotlaw07.StoreKeeps", spec := "storeKeeps", inPlace := ["slices.overlaps[heriot/store.cell]"], unfollowed := true, recurses := true, apart := false }
def StoreKeepsSaid : Prop := storeKeepsRow.holds Try.pinned (OpenSpec.ofChange storeKeepsSpec)

/-- ITS FALSE NEIGHBOUR: 'it returns false'. Refute it at one input. -/
def storeKeepsWrong : ChangeSpec := { name := "storeKeeps", fn := fun _ => fun
  | [d] => { results := [.lit (.bool false)], args := [d] }
  | _ => none }
def StoreKeepsWrongFalsely : Prop := storeKeepsRow.holds Try.pinned (OpenSpec.ofChange storeKeepsWrong)

/-- 'heriotlaw07.StoreClosed': WHATEVER THE INPUT: true; the input reads as it did. -/
def storeClosedSpec : ChangeSpec := { name := "storeClosed", fn := fun _ => fun
  | [d] => { results := [.lit (.bool true)], args := [d] }
  | _ => none }
def storeClosedRow : OpenClaim := { program := "ytgejmgomliadmaa", sum := "fc6b98fb9c90679724f3f8b5f182ead34c5108595bfda387c4983f429fbbb96d", func := "heriot/heriotlaw07.StoreClosed", spec := "storeClosed", inPlace := ["slices.overlaps[heriot/store.cell]"], unfollowed := true, recurses := true, apart := false }
def StoreClosedSaid : Prop := storeClosedRow.holds Try.pinned (OpenSpec.ofChange storeClosedSpec)

/-- ITS FALSE NEIGHBOUR: 'it returns false'. Refute it at one input. -/
def storeClosedWrong : ChangeSpec := { name := "storeClosed", fn := fun _ => fun
  | [d] => { results := [.lit (.bool false)], args := [d] }
  | _ => none }
def StoreClosedWrongFalsely : Prop := storeClosedRow.holds Try.pinned (OpenSpec.ofChange storeClosedWrong)

/-- 'heriotlaw07.StoreRoom': WHATEVER THE INPUT: true; the input reads as it did. -/
def storeRoomSpec : ChangeSpec := { name := "storeRoom", fn := fun _ => fun
  | [d] => { results := [.lit (.bool true)], args := [d] }
  | _ => none }
def storeRoomRow : OpenClaim := { program := "ytgejmgomliadmaa", sum := "fc6b98fb9c90679724f3f8b5f182ead34c5108595bfda387c4983f429fbbb96d", func := "heriot/heriotlaw07.StoreRoom", spec := "storeRoom", inPlace := ["slices.overlaps[heriot/store.cell]"], unfollowed := true, recurses := true, apart := false }
def StoreRoomSaid : Prop := storeRoomRow.holds Try.pinned (OpenSpec.ofChange storeRoomSpec)

/-- ITS FALSE NEIGHBOUR: 'it returns false'. Refute it at one input. -/
def storeRoomWrong : ChangeSpec := { name := "storeRoom", fn := fun _ => fun
  | [d] => { results := [.lit (.bool false)], args := [d] }
  | _ => none }
def StoreRoomWrongFalsely : Prop := storeRoomRow.holds Try.pinned (OpenSpec.ofChange storeRoomWrong)

/- THE SECOND FORM. 'bulk': how many values and letters a reading holds, each counted each time it is reached (what is shared counts as often as it is met; a slice's spare places count too). A statement '..UptoSaid' is the law's where the arguments, and the package variables that the reading takes, are together of bulk at most 1048576: NARROWER than '..Said'. Prove '..Said' where nothing that the law and all that it calls make is longer than what came in: it says more and counts as full. Else prove '..UptoSaid'. A law counts once. -/
mutual
def uptoBulk {H : Type} : DataW H → Nat
  | .lit (.string bytes) => bytes.length + 1
  | .lit _ => 1
  | .nil => 1
  | .ptr d => uptoBulk d + 1
  | .slice elems spare => uptoBulkAll elems + uptoBulkAll spare + 1
  | .agg parts => uptoBulkAll parts + 1
  | .iface _ d => uptoBulk d + 1
  | .map entries => uptoBulkEntries entries + 1
  | .held _ => 1
def uptoBulkAll {H : Type} : List (DataW H) → Nat
  | [] => 0
  | d :: r => uptoBulk d + uptoBulkAll r
def uptoBulkEntries {H : Type} : List (Lit × DataW H) → Nat
  | [] => 0
  | x :: r => uptoBulkEntry x + uptoBulkEntries r
def uptoBulkEntry {H : Type} : Lit × DataW H → Nat
  | (.string bytes, d) => bytes.length + uptoBulk d + 1
  | (_, d) => uptoBulk d + 1
 end
def uptoSmall : (H : Type) → List (DataW H) → Bool := fun _ ds => decide (uptoBulkAll ds ≤ 1048576)
def OpenSpec.upto (s : _root_.Go.ChangeSpec) : _root_.Go.OpenSpec := { _root_.Go.OpenSpec.ofChange s with cond := some uptoSmall }

/-- 'heriotlaw07.StoreAnswers', WHERE WHAT IT READS IS OF BULK AT MOST 1048576: true; the input reads as it did. -/
def storeAnswersUptoRow : OpenClaim := { program := "ytgejmgomliadmaa", sum := "fc6b98fb9c90679724f3f8b5f182ead34c5108595bfda387c4983f429fbbb96d", func := "heriot/heriotlaw07.StoreAnswers", spec := "storeAnswers", inPlace := ["slices.overlaps[heriot/store.cell]"], unfollowed := true, recurses := true, apart := false, narrowed := true }
def StoreAnswersUptoSaid : Prop := storeAnswersUptoRow.holds Try.pinned (OpenSpec.upto storeAnswersSpec)

/-- 'heriotlaw07.StoreKeeps', WHERE WHAT IT READS IS OF BULK AT MOST 1048576: true; the input reads as it did. -/
def storeKeepsUptoRow : OpenClaim := { program := "ytgejmgomliadmaa", sum := "fc6b98fb9c90679724f3f8b5f182ead34c5108595bfda387c4983f429fbbb96d", func := "heriot/heriotlaw07.StoreKeeps", spec := "storeKeeps", inPlace := ["slices.overlaps[heriot/store.cell]"], unfollowed := true, recurses := true, apart := false, narrowed := true }
def StoreKeepsUptoSaid : Prop := storeKeepsUptoRow.holds Try.pinned (OpenSpec.upto storeKeepsSpec)

/-- 'heriotlaw07.StoreClosed', WHERE WHAT IT READS IS OF BULK AT MOST 1048576: true; the input reads as it did. -/
def storeClosedUptoRow : OpenClaim := { program := "ytgejmgomliadmaa", sum := "fc6b98fb9c90679724f3f8b5f182ead34c5108595bfda387c4983f429fbbb96d", func := "heriot/heriotlaw07.StoreClosed", spec := "storeClosed", inPlace := ["slices.overlaps[heriot/store.cell]"], unfollowed := true, recurses := true, apart := false, narrowed := true }
def StoreClosedUptoSaid : Prop := storeClosedUptoRow.holds Try.pinned (OpenSpec.upto storeClosedSpec)

/-- 'heriotlaw07.StoreRoom', WHERE WHAT IT READS IS OF BULK AT MOST 1048576: true; the input reads as it did. -/
def storeRoomUptoRow : OpenClaim := { program := "ytgejmgomliadmaa", sum := "fc6b98fb9c90679724f3f8b5f182ead34c5108595bfda387c4983f429fbbb96d", func := "heriot/heriotlaw07.StoreRoom", spec := "storeRoom", inPlace := ["slices.overlaps[heriot/store.cell]"], unfollowed := true, recurses := true, apart := false, narrowed := true }
def StoreRoomUptoSaid : Prop := storeRoomUptoRow.holds Try.pinned (OpenSpec.upto storeRoomSpec)

end Rows
end Go.Proofs.Ytgejmgomliadmaa
