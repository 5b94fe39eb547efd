/-
  No cell of these rows narrows 'for every input' (looked for: loops, veiled, ifaces, maps, wideKeys, modest, calm, conditions, laid).
  DERIVED. THE GIVEN ROWS OF THIS SEAT. 4 by the template 'for every input the law returns true; each argument reads behind the call as it read before'; 0 by the template 'total and deterministic' (their statements: YtahmogobaanklaaTotals.lean).
  GIVEN WITH THE SEED: the statements are not yours to turn. If you find one false, say at which input.
  Laid BY PROGRAM, IN A SANDBOX (cutbox-rows.mjs): the forced cells as the released guide's own fill.sh prints them over the translation dff0b02a7bd41d4f… (all of the seat's roots in one cut). By AI agents, Wed Nov 11 2026. No macro, syntax, notation, axiom, sorry.
-/
import Derived.Test.YtahmogobaanklaaChecked
import GoSem.Claim
import GoSem.ClaimJoined
import GoSem.ClaimMapViews
import Derived.JoinedTies
import Derived.KernelRfl
namespace Go.Proofs.Ytahmogobaanklaa
/- THE CELL 'sum', in the pinned program and in every row, IS THE sha256 OF THE DUMP (.gsa) THAT YtahmogobaanklaaProg.lean LOADS. Nothing in Lean hashes anything: it is a label: what it is worth is what the hold of that sum in a sandbox is worth. -/
noncomputable def Try.pinned : Pinned := { name := "ytahmogobaanklaa", sum := "dff0b02a7bd41d4f5cf0f91233349c4dbda8cd81780b694d4ac5170dd30c1082", checked := Try.checked }
namespace Rows
def none {H : Type} : Left H := { results := [], args := [] }

/-- 'overfalllaw12.SwingBoxes': WHATEVER THE INPUT: true; the input reads as it did. -/
def swingBoxesSpec : ChangeSpec := { name := "swingBoxes", fn := fun _ => fun
  | [d1, d2, d3, d4, d5, d6, d7, d8] => { results := [.lit (.bool true)], args := [d1, d2, d3, d4, d5, d6, d7, d8] }
  | _ => none }
def swingBoxesRow : OpenClaim := { program := "ytahmogobaanklaa", sum := "dff0b02a7bd41d4f5cf0f91233349c4dbda8cd81780b694d4ac5170dd30c1082", func := "overfall/overfalllaw12.SwingBoxes", spec := "swingBoxes", unfollowed := true, recurses := true, apart := false }
def SwingBoxesSaid : Prop := swingBoxesRow.holds Try.pinned (OpenSpec.ofChange swingBoxesSpec)

/-- ITS FALSE NEIGHBOUR: 'it returns false'. Refute it at one input. -/
def swingBoxesWrong : ChangeSpec := { name := "swingBoxes", fn := fun _ => fun
  | [d1, d2, d3, d4, d5, d6, d7, d8] => { results := [.lit (.bool false)], args := [d1, d2, d3, d4, d5, d6, d7, d8] }
  | _ => none }
def SwingBoxesWrongFalsely : Prop := swingBoxesRow.holds Try.pinned (OpenSpec.ofChange swingBoxesWrong)

/-- 'overfalllaw12.SwingJoins': WHATEVER THE INPUT: true; the input reads as it did. -/
def swingJoinsSpec : ChangeSpec := { name := "swingJoins", fn := fun _ => fun
  | [d1, d2, d3, d4, d5, d6] => { results := [.lit (.bool true)], args := [d1, d2, d3, d4, d5, d6] }
  | _ => none }
def swingJoinsRow : OpenClaim := { program := "ytahmogobaanklaa", sum := "dff0b02a7bd41d4f5cf0f91233349c4dbda8cd81780b694d4ac5170dd30c1082", func := "overfall/overfalllaw12.SwingJoins", spec := "swingJoins", unfollowed := true, recurses := true, apart := false }
def SwingJoinsSaid : Prop := swingJoinsRow.holds Try.pinned (OpenSpec.ofChange swingJoinsSpec)

/-- ITS FALSE NEIGHBOUR: 'it returns false'. Refute it at one input. -/
def swingJoinsWrong : ChangeSpec := { name := "swingJoins", fn := fun _ => fun
  | [d1, d2, d3, d4, d5, d6] => { results := [.lit (.bool false)], args := [d1, d2, d3, d4, d5, d6] }
  | _ => none }
def SwingJoinsWrongFalsely : Prop := swingJoinsRow.holds Try.pinned (OpenSpec.ofChange swingJoinsWrong)

/-- 'overfalllaw12.SwingTells': WHATEVER THE INPUT: true; the input reads as it did. -/
def swingTellsSpec : ChangeSpec := { name := "swingTells", fn := fun _ => fun
  | [d1, d2, d3, d4] => { results := [.lit (.bool true)], args := [d1, d2, d3, d4] }
  | _ => none }
def swingTellsRow : OpenClaim := { program := "ytahmogobaanklaa", sum := "dff0b02a7bd41d4f5cf0f91233349c4dbda8cd81780b694d4ac5170dd30c1082", func := "overfall/overfalllaw12.SwingTells", spec := "swingTells", unfollowed := true, recurses := true, apart := false }
def SwingTellsSaid : Prop := swingTellsRow.holds Try.pinned (OpenSpec.ofChange swingTellsSpec)

/-- ITS FALSE NEIGHBOUR: 'it returns false'. Refute it at one input. -/
def swingTellsWrong : ChangeSpec := { name := "swingTells", fn := fun _ => fun
  | [d1, d2, d3, d4] => { results := [.lit (.bool false)], args := [d1, d2, d3, d4] }
  | _ => none }
def SwingTellsWrongFalsely : Prop := swingTellsRow.holds Try.pinned (OpenSpec.ofChange swingTellsWrong)

/-- 'overfalllaw12.SwingBack': WHATEVER THE INPUT: true; the input reads as it did. -/
def swingBackSpec : ChangeSpec := { name := "swingBack", fn := fun _ => fun
  | [d1, d2, d3, d4, d5] => { results := [.lit (.bool true)], args := [d1, d2, d3, d4, d5] }
  | _ => none }
def swingBackRow : OpenClaim := { program := "ytahmogobaanklaa", sum := "dff0b02a7bd41d4f5cf0f91233349c4dbda8cd81780b694d4ac5170dd30c1082", func := "overfall/overfalllaw12.SwingBack", spec := "swingBack", unfollowed := true, recurses := true, apart := false }
def SwingBackSaid : Prop := swingBackRow.holds Try.pinned (OpenSpec.ofChange swingBackSpec)

/-- ITS FALSE NEIGHBOUR: 'it returns false'. Refute it at one input. -/
def swingBackWrong : ChangeSpec := { name := "swingBack", fn := fun _ => fun
  | [d1, d2, d3, d4, d5] => { results := [.lit (.bool false)], args := [d1, d2, d3, d4, d5] }
  | _ => none }
def SwingBackWrongFalsely : Prop := swingBackRow.holds Try.pinned (OpenSpec.ofChange swingBackWrong)

/- THE SECOND FORM. 'bulk': how many values and letters a reading holds, each counted each time it is reached (what is shared counts as often as it is met; a slice's spare places count too). A statement '..UptoSaid' is the law's where the arguments, and the package variables that the reading takes, are together of bulk at most 1048576: NARROWER than '..Said'. Prove '..Said' where nothing that the law and all that it calls make is longer than what came in: it says more and counts as full. Else prove '..UptoSaid'. A law counts once. -/
mutual
def uptoBulk {H : Type} : DataW H → Nat
  | .lit (.string bytes) => bytes.length + 1
  | .lit _ => 1
  | .nil => 1
  | .ptr d => uptoBulk d + 1
  | .slice elems spare => uptoBulkAll elems + uptoBulkAll spare + 1
  | .agg parts => uptoBulkAll parts + 1
  | .iface _ d => uptoBulk d + 1
  | .map entries => uptoBulkEntries entries + 1
  | .held _ => 1
def uptoBulkAll {H : Type} : List (DataW H) → Nat
  | [] => 0
  | d :: r => uptoBulk d + uptoBulkAll r
def uptoBulkEntries {H : Type} : List (Lit × DataW H) → Nat
  | [] => 0
  | x :: r => uptoBulkEntry x + uptoBulkEntries r
def uptoBulkEntry {H : Type} : Lit × DataW H → Nat
  | (.string bytes, d) => bytes.length + uptoBulk d + 1
  | (_, d) => uptoBulk d + 1
 end
def uptoSmall : (H : Type) → List (DataW H) → Bool := fun _ ds => decide (uptoBulkAll ds ≤ 1048576)
def OpenSpec.upto (s : _root_.Go.ChangeSpec) : _root_.Go.OpenSpec := { _root_.Go.OpenSpec.ofChange s with cond := some uptoSmall }

/-- 'overfalllaw12.SwingBoxes', WHERE WHAT IT READS IS OF BULK AT MOST 1048576: true; the input reads as it did. -/
def swingBoxesUptoRow : OpenClaim := { program := "ytahmogobaanklaa", sum := "dff0b02a7bd41d4f5cf0f91233349c4dbda8cd81780b694d4ac5170dd30c1082", func := "overfall/overfalllaw12.SwingBoxes", spec := "swingBoxes", unfollowed := true, recurses := true, apart := false, narrowed := true }
def SwingBoxesUptoSaid : Prop := swingBoxesUptoRow.holds Try.pinned (OpenSpec.upto swingBoxesSpec)

/-- 'overfalllaw12.SwingJoins', WHERE WHAT IT READS IS OF BULK AT MOST 1048576: true; the input reads as it did. -/
def swingJoinsUptoRow : OpenClaim := { program := "ytahmogobaanklaa", sum := "dff0b02a7bd41d4f5cf0f91233349c4dbda8cd81780b694d4ac5170dd30c1082", func := "overfall/overfalllaw12.SwingJoins", spec := "swingJoins", unfollowed := true, recurses := true, apart := false, narrowed := true }
def SwingJoinsUptoSaid : Prop := swingJoinsUptoRow.holds Try.pinned (OpenSpec.upto swingJoinsSpec)

/-- 'overfalllaw12.SwingTells', WHERE WHAT IT READS IS OF BULK AT MOST 1048576: true; the input reads as it did. -/
def swingTellsUptoRow : OpenClaim := { program := "ytahmogobaanklaa", sum := "dff0b02a7bd41d4f5cf0f91233349c4dbda8cd81780b694d4ac5170dd30c1082", func := "overfall/overfalllaw12.SwingTells", spec := "swingTells", unfollowed := true, recurses := true, apart := false, narrowed := true }
def SwingTellsUptoSaid : Prop := swingTellsUptoRow.holds Try.pinned (OpenSpec.upto swingTellsSpec)

/-- 'overfalllaw12.SwingBack', WHERE WHAT IT READS IS OF BULK AT MOST 1048576: true; the input reads as it did. -/
def swingBackUptoRow : OpenClaim := { program := "ytahmogobaanklaa", sum := "dff0b02a7bd41d4f5cf0f91233349c4dbda8cd81780b694d4ac5170dd30c1082", func := "overfall/overfalllaw12.SwingBack", spec := "swingBack", unfollowed := true, recurses := true, apart := false, narrowed := true }
def SwingBackUptoSaid : Prop := swingBackUptoRow.holds Try.pinned (OpenSpec.upto swingBackSpec)

end Rows
end Go.Proofs.Ytahmogobaanklaa
