/-
  No cell of these rows narrows 'for every input' (looked for: loops, veiled, ifaces, maps, wideKeys, modest, calm, conditions, laid).
  DERIVED. THE GIVEN ROWS OF THIS SEAT. 5 by the template 'for every input the law returns true; each argument reads behind the call as it read before'; 0 by the template 'total and deterministic' (their statements: YtbpjgkidhlkiiaaTotals.lean).
  GIVEN WITH THE SEED: the statements are not yours to turn. If you find one false, say at which input.
  Laid BY PROGRAM, IN A SANDBOX (cutbox-rows.mjs): the forced cells as the released guide's own fill.sh prints them over the translation 9a0d617b5e90aab4… (all of the seat's roots in one cut). By AI agents, Wed Nov 11 2026. No macro, syntax, notation, axiom, sorry.
-/
import Derived.Test.YtbpjgkidhlkiiaaChecked
import GoSem.Claim
import GoSem.ClaimJoined
import GoSem.ClaimMapViews
import Derived.JoinedTies
import Derived.KernelRfl
namespace Go.Proofs.Ytbpjgkidhlkiiaa
/- THE CELL 'sum', in the pinned program and in every row, IS THE sha256 OF THE DUMP (.gsa) THAT YtbpjgkidhlkiiaaProg.lean LOADS. Nothing in Lean hashes anything: it is a label: what it is worth is what the hold of that sum in a sandbox is worth. -/
noncomputable def Try.pinned : Pinned := { name := "ytbpjgkidhlkiiaa", sum := "9a0d617b5e90aab4bcdec16c07c3addb3da5dd0f111492e082c2031f4b3a7f6c", checked := Try.checked }
namespace Rows
def none {H : Type} : Left H := { results := [], args := [] }

/-- 'overfalllaw03.RootWides': WHATEVER THE INPUT: true; the input reads as it did. -/
def rootWidesSpec : ChangeSpec := { name := "rootWides", fn := fun _ => fun
  | [d] => { results := [.lit (.bool true)], args := [d] }
  | _ => none }
def rootWidesRow : OpenClaim := { program := "ytbpjgkidhlkiiaa", sum := "9a0d617b5e90aab4bcdec16c07c3addb3da5dd0f111492e082c2031f4b3a7f6c", func := "overfall/overfalllaw03.RootWides", spec := "rootWides", named := ["math/bits.divideError", "math/bits.overflowError"], apart := false }
def RootWidesSaid : Prop := rootWidesRow.holds Try.pinned (OpenSpec.ofChange rootWidesSpec)

/-- ITS FALSE NEIGHBOUR: 'it returns false'. Refute it at one input. -/
def rootWidesWrong : ChangeSpec := { name := "rootWides", fn := fun _ => fun
  | [d] => { results := [.lit (.bool false)], args := [d] }
  | _ => none }
def RootWidesWrongFalsely : Prop := rootWidesRow.holds Try.pinned (OpenSpec.ofChange rootWidesWrong)

/-- 'overfalllaw03.RootLaws': WHATEVER THE INPUT: true; the input reads as it did. -/
def rootLawsSpec : ChangeSpec := { name := "rootLaws", fn := fun _ => fun
  | [d1, d2] => { results := [.lit (.bool true)], args := [d1, d2] }
  | _ => none }
def rootLawsRow : OpenClaim := { program := "ytbpjgkidhlkiiaa", sum := "9a0d617b5e90aab4bcdec16c07c3addb3da5dd0f111492e082c2031f4b3a7f6c", func := "overfall/overfalllaw03.RootLaws", spec := "rootLaws", named := ["math/bits.divideError", "math/bits.overflowError"], apart := false }
def RootLawsSaid : Prop := rootLawsRow.holds Try.pinned (OpenSpec.ofChange rootLawsSpec)

/-- ITS FALSE NEIGHBOUR: 'it returns false'. Refute it at one input. -/
def rootLawsWrong : ChangeSpec := { name := "rootLaws", fn := fun _ => fun
  | [d1, d2] => { results := [.lit (.bool false)], args := [d1, d2] }
  | _ => none }
def RootLawsWrongFalsely : Prop := rootLawsRow.holds Try.pinned (OpenSpec.ofChange rootLawsWrong)

/-- 'overfalllaw03.RootFalls': WHATEVER THE INPUT: true; the input reads as it did. -/
def rootFallsSpec : ChangeSpec := { name := "rootFalls", fn := fun _ => fun
  | [d1, d2, d3, d4, d5] => { results := [.lit (.bool true)], args := [d1, d2, d3, d4, d5] }
  | _ => none }
def rootFallsRow : OpenClaim := { program := "ytbpjgkidhlkiiaa", sum := "9a0d617b5e90aab4bcdec16c07c3addb3da5dd0f111492e082c2031f4b3a7f6c", func := "overfall/overfalllaw03.RootFalls", spec := "rootFalls", named := ["math/bits.divideError", "math/bits.overflowError"], apart := false }
def RootFallsSaid : Prop := rootFallsRow.holds Try.pinned (OpenSpec.ofChange rootFallsSpec)

/-- ITS FALSE NEIGHBOUR: 'it returns false'. Refute it at one input. -/
def rootFallsWrong : ChangeSpec := { name := "rootFalls", fn := fun _ => fun
  | [d1, d2, d3, d4, d5] => { results := [.lit (.bool false)], args := [d1, d2, d3, d4, d5] }
  | _ => none }
def RootFallsWrongFalsely : Prop := rootFallsRow.holds Try.pinned (OpenSpec.ofChange rootFallsWrong)

/-- 'overfalllaw03.RootRises': WHATEVER THE INPUT: true; the input reads as it did. -/
def rootRisesSpec : ChangeSpec := { name := "rootRises", fn := fun _ => fun
  | [d1, d2, d3, d4] => { results := [.lit (.bool true)], args := [d1, d2, d3, d4] }
  | _ => none }
def rootRisesRow : OpenClaim := { program := "ytbpjgkidhlkiiaa", sum := "9a0d617b5e90aab4bcdec16c07c3addb3da5dd0f111492e082c2031f4b3a7f6c", func := "overfall/overfalllaw03.RootRises", spec := "rootRises", named := ["math/bits.divideError", "math/bits.overflowError"], apart := false }
def RootRisesSaid : Prop := rootRisesRow.holds Try.pinned (OpenSpec.ofChange rootRisesSpec)

/-- ITS FALSE NEIGHBOUR: 'it returns false'. Refute it at one input. -/
def rootRisesWrong : ChangeSpec := { name := "rootRises", fn := fun _ => fun
  | [d1, d2, d3, d4] => { results := [.lit (.bool false)], args := [d1, d2, d3, d4] }
  | _ => none }
def RootRisesWrongFalsely : Prop := rootRisesRow.holds Try.pinned (OpenSpec.ofChange rootRisesWrong)

/-- 'overfalllaw03.RootSquares': WHATEVER THE INPUT: true; the input reads as it did. -/
def rootSquaresSpec : ChangeSpec := { name := "rootSquares", fn := fun _ => fun
  | [d] => { results := [.lit (.bool true)], args := [d] }
  | _ => none }
def rootSquaresRow : OpenClaim := { program := "ytbpjgkidhlkiiaa", sum := "9a0d617b5e90aab4bcdec16c07c3addb3da5dd0f111492e082c2031f4b3a7f6c", func := "overfall/overfalllaw03.RootSquares", spec := "rootSquares", named := ["math/bits.divideError", "math/bits.overflowError"], apart := false }
def RootSquaresSaid : Prop := rootSquaresRow.holds Try.pinned (OpenSpec.ofChange rootSquaresSpec)

/-- ITS FALSE NEIGHBOUR: 'it returns false'. Refute it at one input. -/
def rootSquaresWrong : ChangeSpec := { name := "rootSquares", fn := fun _ => fun
  | [d] => { results := [.lit (.bool false)], args := [d] }
  | _ => none }
def RootSquaresWrongFalsely : Prop := rootSquaresRow.holds Try.pinned (OpenSpec.ofChange rootSquaresWrong)

/- THE SECOND FORM. 'bulk': how many values and letters a reading holds, each counted each time it is reached (what is shared counts as often as it is met; a slice's spare places count too). A statement '..UptoSaid' is the law's where the arguments, and the package variables that the reading takes, are together of bulk at most 1048576: NARROWER than '..Said'. Prove '..Said' where nothing that the law and all that it calls make is longer than what came in: it says more and counts as full. Else prove '..UptoSaid'. A law counts once. -/
mutual
def uptoBulk {H : Type} : DataW H → Nat
  | .lit (.string bytes) => bytes.length + 1
  | .lit _ => 1
  | .nil => 1
  | .ptr d => uptoBulk d + 1
  | .slice elems spare => uptoBulkAll elems + uptoBulkAll spare + 1
  | .agg parts => uptoBulkAll parts + 1
  | .iface _ d => uptoBulk d + 1
  | .map entries => uptoBulkEntries entries + 1
  | .held _ => 1
def uptoBulkAll {H : Type} : List (DataW H) → Nat
  | [] => 0
  | d :: r => uptoBulk d + uptoBulkAll r
def uptoBulkEntries {H : Type} : List (Lit × DataW H) → Nat
  | [] => 0
  | x :: r => uptoBulkEntry x + uptoBulkEntries r
def uptoBulkEntry {H : Type} : Lit × DataW H → Nat
  | (.string bytes, d) => bytes.length + uptoBulk d + 1
  | (_, d) => uptoBulk d + 1
 end
def uptoSmall : (H : Type) → List (DataW H) → Bool := fun _ ds => decide (uptoBulkAll ds ≤ 1048576)
def OpenSpec.upto (s : _root_.Go.ChangeSpec) : _root_.Go.OpenSpec := { _root_.Go.OpenSpec.ofChange s with cond := some uptoSmall }

/-- 'overfalllaw03.RootWides', WHERE WHAT IT READS IS OF BULK AT MOST 1048576: true; the input reads as it did. -/
def rootWidesUptoRow : OpenClaim := { program := "ytbpjgkidhlkiiaa", sum := "9a0d617b5e90aab4bcdec16c07c3addb3da5dd0f111492e082c2031f4b3a7f6c", func := "overfall/overfalllaw03.RootWides", spec := "rootWides", named := ["math/bits.divideError", "math/bits.overflowError"], apart := false, narrowed := true }
def RootWidesUptoSaid : Prop := rootWidesUptoRow.holds Try.pinned (OpenSpec.upto rootWidesSpec)

/-- 'overfalllaw03.RootLaws', WHERE WHAT IT READS IS OF BULK AT MOST 1048576: true; the input reads as it did. -/
def rootLawsUptoRow : OpenClaim := { program := "ytbpjgkidhlkiiaa", sum := "9a0d617b5e90aab4bcdec16c07c3addb3da5dd0f111492e082c2031f4b3a7f6c", func := "overfall/overfalllaw03.RootLaws", spec := "rootLaws", named := ["math/bits.divideError", "math/bits.overflowError"], apart := false, narrowed := true }
def RootLawsUptoSaid : Prop := rootLawsUptoRow.holds Try.pinned (OpenSpec.upto rootLawsSpec)

/-- 'overfalllaw03.RootFalls', WHERE WHAT IT READS IS OF BULK AT MOST 1048576: true; the input reads as it did. -/
def rootFallsUptoRow : OpenClaim := { program := "ytbpjgkidhlkiiaa", sum := "9a0d617b5e90aab4bcdec16c07c3addb3da5dd0f111492e082c2031f4b3a7f6c", func := "overfall/overfalllaw03.RootFalls", spec := "rootFalls", named := ["math/bits.divideError", "math/bits.overflowError"], apart := false, narrowed := true }
def RootFallsUptoSaid : Prop := rootFallsUptoRow.holds Try.pinned (OpenSpec.upto rootFallsSpec)

/-- 'overfalllaw03.RootRises', WHERE WHAT IT READS IS OF BULK AT MOST 1048576: true; the input reads as it did. -/
def rootRisesUptoRow : OpenClaim := { program := "ytbpjgkidhlkiiaa", sum := "9a0d617b5e90aab4bcdec16c07c3addb3da5dd0f111492e082c2031f4b3a7f6c", func := "overfall/overfalllaw03.RootRises", spec := "rootRises", named := ["math/bits.divideError", "math/bits.overflowError"], apart := false, narrowed := true }
def RootRisesUptoSaid : Prop := rootRisesUptoRow.holds Try.pinned (OpenSpec.upto rootRisesSpec)

/-- 'overfalllaw03.RootSquares', WHERE WHAT IT READS IS OF BULK AT MOST 1048576: true; the input reads as it did. -/
def rootSquaresUptoRow : OpenClaim := { program := "ytbpjgkidhlkiiaa", sum := "9a0d617b5e90aab4bcdec16c07c3addb3da5dd0f111492e082c2031f4b3a7f6c", func := "overfall/overfalllaw03.RootSquares", spec := "rootSquares", named := ["math/bits.divideError", "math/bits.overflowError"], apart := false, narrowed := true }
def RootSquaresUptoSaid : Prop := rootSquaresUptoRow.holds Try.pinned (OpenSpec.upto rootSquaresSpec)

end Rows
end Go.Proofs.Ytbpjgkidhlkiiaa
