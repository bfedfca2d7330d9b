/-
  NARROWER THAN 'FOR EVERY INPUT', by the rows' own cells (each row's printed sentence says how): FlatFuel: loops · FlatStuck: loops.
  DERIVED. THE GIVEN ROWS OF THIS SEAT. 2 by the template 'for every input the law returns true; each argument reads behind the call as it read before'; 0 by the template 'total and deterministic' (their statements: YtadffbgbndibpaaTotals.lean).
  GIVEN WITH THE SEED: the statements are not yours to turn. If you find one false, say at which input.
  Laid BY PROGRAM, IN A SANDBOX (cutbox-rows.mjs): the forced cells as the released guide's own fill.sh prints them over the translation 8e1ee6d39f461836… (all of the seat's roots in one cut). By AI agents, Wed Nov 11 2026. No macro, syntax, notation, axiom, sorry.
-/
import Derived.Test.YtadffbgbndibpaaChecked
import GoSem.Claim
import GoSem.ClaimJoined
import GoSem.ClaimMapViews
import Derived.JoinedTies
import Derived.KernelRfl
namespace Go.Proofs.Ytadffbgbndibpaa
/- THE CELL 'sum', in the pinned program and in every row, IS THE sha256 OF THE DUMP (.gsa) THAT YtadffbgbndibpaaProg.lean LOADS. Nothing in Lean hashes anything: it is a label: what it is worth is what the hold of that sum in a sandbox is worth. -/
noncomputable def Try.pinned : Pinned := { name := "ytadffbgbndibpaa", sum := "8e1ee6d39f4618364e3f16378708d15b138eefba8d0417b04be9ebeae30bf5ad", checked := Try.checked }
namespace Rows
def none {H : Type} : Left H := { results := [], args := [] }

/-- 'heriotlaw04.FlatFuel': WHATEVER THE INPUT: true; the input reads as it did. -/
def flatFuelSpec : ChangeSpec := { name := "flatFuel", fn := fun _ => fun
  | [d1, d2, d3] => { results := [.lit (.bool true)], args := [d1, d2, d3] }
  | _ => none }
def flatFuelRow : OpenClaim := { program := "ytadffbgbndibpaa", sum := "8e1ee6d39f4618364e3f16378708d15b138eefba8d0417b04be9ebeae30bf5ad", func := "heriot/heriotlaw04.FlatFuel", spec := "flatFuel", unfollowed := true, recurses := true, loops := true, apart := false }
def FlatFuelSaid : Prop := flatFuelRow.holds Try.pinned (OpenSpec.ofChange flatFuelSpec)

/-- ITS FALSE NEIGHBOUR: 'it returns false'. Refute it at one input. -/
def flatFuelWrong : ChangeSpec := { name := "flatFuel", fn := fun _ => fun
  | [d1, d2, d3] => { results := [.lit (.bool false)], args := [d1, d2, d3] }
  | _ => none }
def FlatFuelWrongFalsely : Prop := flatFuelRow.holds Try.pinned (OpenSpec.ofChange flatFuelWrong)

/-- 'heriotlaw04.FlatStuck': WHATEVER THE INPUT: true; the input reads as it did. -/
def flatStuckSpec : ChangeSpec := { name := "flatStuck", fn := fun _ => fun
  | [d1, d2, d3] => { results := [.lit (.bool true)], args := [d1, d2, d3] }
  | _ => none }
def flatStuckRow : OpenClaim := { program := "ytadffbgbndibpaa", sum := "8e1ee6d39f4618364e3f16378708d15b138eefba8d0417b04be9ebeae30bf5ad", func := "heriot/heriotlaw04.FlatStuck", spec := "flatStuck", unfollowed := true, recurses := true, loops := true, apart := false }
def FlatStuckSaid : Prop := flatStuckRow.holds Try.pinned (OpenSpec.ofChange flatStuckSpec)

/-- ITS FALSE NEIGHBOUR: 'it returns false'. Refute it at one input. -/
def flatStuckWrong : ChangeSpec := { name := "flatStuck", fn := fun _ => fun
  | [d1, d2, d3] => { results := [.lit (.bool false)], args := [d1, d2, d3] }
  | _ => none }
def FlatStuckWrongFalsely : Prop := flatStuckRow.holds Try.pinned (OpenSpec.ofChange flatStuckWrong)

/- THE SECOND FORM. 'bulk': how many values and letters a reading holds, each counted each time it is reached (what is shared counts as often as it is met; a slice's spare places count too). A statement '..UptoSaid' is the law's where the arguments, and the package variables that the reading takes, are together of bulk at most 1048576: NARROWER than '..Said'. Prove '..Said' where nothing that the law and all that it calls make is longer than what came in: it says more and counts as full. Else prove '..UptoSaid'. A law counts once. -/
mutual
def uptoBulk {H : Type} : DataW H → Nat
  | .lit (.string bytes) => bytes.length + 1
  | .lit _ => 1
  | .nil => 1
  | .ptr d => uptoBulk d + 1
  | .slice elems spare => uptoBulkAll elems + uptoBulkAll spare + 1
  | .agg parts => uptoBulkAll parts + 1
  | .iface _ d => uptoBulk d + 1
  | .map entries => uptoBulkEntries entries + 1
  | .held _ => 1
def uptoBulkAll {H : Type} : List (DataW H) → Nat
  | [] => 0
  | d :: r => uptoBulk d + uptoBulkAll r
def uptoBulkEntries {H : Type} : List (Lit × DataW H) → Nat
  | [] => 0
  | x :: r => uptoBulkEntry x + uptoBulkEntries r
def uptoBulkEntry {H : Type} : Lit × DataW H → Nat
  | (.string bytes, d) => bytes.length + uptoBulk d + 1
  | (_, d) => uptoBulk d + 1
 end
def uptoSmall : (H : Type) → List (DataW H) → Bool := fun _ ds => decide (uptoBulkAll ds ≤ 1048576)
def OpenSpec.upto (s : _root_.Go.ChangeSpec) : _root_.Go.OpenSpec := { _root_.Go.OpenSpec.ofChange s with cond := some uptoSmall }

/-- 'heriotlaw04.FlatFuel', WHERE WHAT IT READS IS OF BULK AT MOST 1048576: true; the input reads as it did. -/
def flatFuelUptoRow : OpenClaim := { program := "ytadffbgbndibpaa", sum := "8e1ee6d39f4618364e3f16378708d15b138eefba8d0417b04be9ebeae30bf5ad", func := "heriot/heriotlaw04.FlatFuel", spec := "flatFuel", unfollowed := true, recurses := true, loops := true, apart := false, narrowed := true }
def FlatFuelUptoSaid : Prop := flatFuelUptoRow.holds Try.pinned (OpenSpec.upto flatFuelSpec)

/-- 'heriotlaw04.FlatStuck', WHERE WHAT IT READS IS OF BULK AT MOST 1048576: true; the input reads as it did. -/
def flatStuckUptoRow : OpenClaim := { program := "ytadffbgbndibpaa", sum := "8e1ee6d39f4618364e3f16378708d15b138eefba8d0417b04be9ebeae30bf5ad", func := "heriot/heriotlaw04.FlatStuck", spec := "flatStuck", unfollowed := true, recurses := true, loops := true, apart := false, narrowed := true }
def FlatStuckUptoSaid : Prop := flatStuckUptoRow.holds Try.pinned (OpenSpec.upto flatStuckSpec)

end Rows
end Go.Proofs.Ytadffbgbndibpaa
