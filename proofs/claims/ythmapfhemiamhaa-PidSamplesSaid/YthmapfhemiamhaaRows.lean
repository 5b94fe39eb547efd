/-
  No cell of these rows narrows 'for every input' (looked for: loops, veiled, ifaces, maps, wideKeys, modest, calm, conditions, laid).
  DERIVED. THE GIVEN ROWS OF THIS SEAT. 5 by the template 'for every input the law returns true; each argument reads behind the call as it read before'; 0 by the template 'total and deterministic' (their statements: YthmapfhemiamhaaTotals.lean).
  GIVEN WITH THE SEED: the statements are not yours to turn. If you find one false, say at which input.
  Laid BY PROGRAM, IN A SANDBOX (cutbox-rows.mjs): the forced cells as the released guide's own fill.sh prints them over the translation 43bd7742d1959678… (all of the seat's roots in one cut). By AI agents, Wed Nov 11 2026. No macro, syntax, notation, axiom, sorry.
-/
import Derived.Test.YthmapfhemiamhaaChecked
import GoSem.Claim
import GoSem.ClaimJoined
import GoSem.ClaimMapViews
import Derived.JoinedTies
import Derived.KernelRfl
namespace Go.Proofs.Ythmapfhemiamhaa
/- THE CELL 'sum', in the pinned program and in every row, IS THE sha256 OF THE DUMP (.gsa) THAT YthmapfhemiamhaaProg.lean LOADS. Nothing in Lean hashes anything: it is a label: what it is worth is what the hold of that sum in a sandbox is worth. -/
noncomputable def Try.pinned : Pinned := { name := "ythmapfhemiamhaa", sum := "43bd7742d19596780a7bc2b81d71a76bf0c1fda8cf4f5384e7e06dd6f3651a89", checked := Try.checked }
namespace Rows
def none {H : Type} : Left H := { results := [], args := [] }

/-- 'overfalllaw11.PidSamples': WHATEVER THE INPUT: true; the input reads as it did. -/
def pidSamplesSpec : ChangeSpec := { name := "pidSamples", fn := fun _ => fun
  | [d1, d2, d3] => { results := [.lit (.bool true)], args := [d1, d2, d3] }
  | _ => none }
def pidSamplesRow : OpenClaim := { program := "ythmapfhemiamhaa", sum := "43bd7742d19596780a7bc2b81d71a76bf0c1fda8cf4f5384e7e06dd6f3651a89", func := "overfall/overfalllaw11.PidSamples", spec := "pidSamples", inPlace := ["math/bits.Add64"], apart := false }
def PidSamplesSaid : Prop := pidSamplesRow.holds Try.pinned (OpenSpec.ofChange pidSamplesSpec)

/-- ITS FALSE NEIGHBOUR: 'it returns false'. Refute it at one input. -/
def pidSamplesWrong : ChangeSpec := { name := "pidSamples", fn := fun _ => fun
  | [d1, d2, d3] => { results := [.lit (.bool false)], args := [d1, d2, d3] }
  | _ => none }
def PidSamplesWrongFalsely : Prop := pidSamplesRow.holds Try.pinned (OpenSpec.ofChange pidSamplesWrong)

/-- 'overfalllaw11.PidBounds': WHATEVER THE INPUT: true; the input reads as it did. -/
def pidBoundsSpec : ChangeSpec := { name := "pidBounds", fn := fun _ => fun
  | [d1, d2, d3] => { results := [.lit (.bool true)], args := [d1, d2, d3] }
  | _ => none }
def pidBoundsRow : OpenClaim := { program := "ythmapfhemiamhaa", sum := "43bd7742d19596780a7bc2b81d71a76bf0c1fda8cf4f5384e7e06dd6f3651a89", func := "overfall/overfalllaw11.PidBounds", spec := "pidBounds", inPlace := ["math/bits.Add64"], apart := false }
def PidBoundsSaid : Prop := pidBoundsRow.holds Try.pinned (OpenSpec.ofChange pidBoundsSpec)

/-- ITS FALSE NEIGHBOUR: 'it returns false'. Refute it at one input. -/
def pidBoundsWrong : ChangeSpec := { name := "pidBounds", fn := fun _ => fun
  | [d1, d2, d3] => { results := [.lit (.bool false)], args := [d1, d2, d3] }
  | _ => none }
def PidBoundsWrongFalsely : Prop := pidBoundsRow.holds Try.pinned (OpenSpec.ofChange pidBoundsWrong)

/-- 'overfalllaw11.PidFalls': WHATEVER THE INPUT: true; the input reads as it did. -/
def pidFallsSpec : ChangeSpec := { name := "pidFalls", fn := fun _ => fun
  | [d1, d2, d3] => { results := [.lit (.bool true)], args := [d1, d2, d3] }
  | _ => none }
def pidFallsRow : OpenClaim := { program := "ythmapfhemiamhaa", sum := "43bd7742d19596780a7bc2b81d71a76bf0c1fda8cf4f5384e7e06dd6f3651a89", func := "overfall/overfalllaw11.PidFalls", spec := "pidFalls", inPlace := ["math/bits.Add64"], apart := false }
def PidFallsSaid : Prop := pidFallsRow.holds Try.pinned (OpenSpec.ofChange pidFallsSpec)

/-- ITS FALSE NEIGHBOUR: 'it returns false'. Refute it at one input. -/
def pidFallsWrong : ChangeSpec := { name := "pidFalls", fn := fun _ => fun
  | [d1, d2, d3] => { results := [.lit (.bool false)], args := [d1, d2, d3] }
  | _ => none }
def PidFallsWrongFalsely : Prop := pidFallsRow.holds Try.pinned (OpenSpec.ofChange pidFallsWrong)

/-- 'overfalllaw11.PidRises': WHATEVER THE INPUT: true; the input reads as it did. -/
def pidRisesSpec : ChangeSpec := { name := "pidRises", fn := fun _ => fun
  | [d1, d2, d3, d4] => { results := [.lit (.bool true)], args := [d1, d2, d3, d4] }
  | _ => none }
def pidRisesRow : OpenClaim := { program := "ythmapfhemiamhaa", sum := "43bd7742d19596780a7bc2b81d71a76bf0c1fda8cf4f5384e7e06dd6f3651a89", func := "overfall/overfalllaw11.PidRises", spec := "pidRises", inPlace := ["math/bits.Add64"], apart := false }
def PidRisesSaid : Prop := pidRisesRow.holds Try.pinned (OpenSpec.ofChange pidRisesSpec)

/-- ITS FALSE NEIGHBOUR: 'it returns false'. Refute it at one input. -/
def pidRisesWrong : ChangeSpec := { name := "pidRises", fn := fun _ => fun
  | [d1, d2, d3, d4] => { results := [.lit (.bool false)], args := [d1, d2, d3, d4] }
  | _ => none }
def PidRisesWrongFalsely : Prop := pidRisesRow.holds Try.pinned (OpenSpec.ofChange pidRisesWrong)

/-- 'overfalllaw11.PidRests': WHATEVER THE INPUT: true; the input reads as it did. -/
def pidRestsSpec : ChangeSpec := { name := "pidRests", fn := fun _ => fun
  | [d1, d2, d3] => { results := [.lit (.bool true)], args := [d1, d2, d3] }
  | _ => none }
def pidRestsRow : OpenClaim := { program := "ythmapfhemiamhaa", sum := "43bd7742d19596780a7bc2b81d71a76bf0c1fda8cf4f5384e7e06dd6f3651a89", func := "overfall/overfalllaw11.PidRests", spec := "pidRests", inPlace := ["math/bits.Add64"], apart := false }
def PidRestsSaid : Prop := pidRestsRow.holds Try.pinned (OpenSpec.ofChange pidRestsSpec)

/-- ITS FALSE NEIGHBOUR: 'it returns false'. Refute it at one input. -/
def pidRestsWrong : ChangeSpec := { name := "pidRests", fn := fun _ => fun
  | [d1, d2, d3] => { results := [.lit (.bool false)], args := [d1, d2, d3] }
  | _ => none }
def PidRestsWrongFalsely : Prop := pidRestsRow.holds Try.pinned (OpenSpec.ofChange pidRestsWrong)

/- THE SECOND FORM. 'bulk': how many values and letters a reading holds, each counted each time it is reached (what is shared counts as often as it is met; a slice's spare places count too). A statement '..UptoSaid' is the law's where the arguments, and the package variables that the reading takes, are together of bulk at most 1048576: NARROWER than '..Said'. Prove '..Said' where nothing that the law and all that it calls make is longer than what came in: it says more and counts as full. Else prove '..UptoSaid'. A law counts once. -/
mutual
def uptoBulk {H : Type} : DataW H → Nat
  | .lit (.string bytes) => bytes.length + 1
  | .lit _ => 1
  | .nil => 1
  | .ptr d => uptoBulk d + 1
  | .slice elems spare => uptoBulkAll elems + uptoBulkAll spare + 1
  | .agg parts => uptoBulkAll parts + 1
  | .iface _ d => uptoBulk d + 1
  | .map entries => uptoBulkEntries entries + 1
  | .held _ => 1
def uptoBulkAll {H : Type} : List (DataW H) → Nat
  | [] => 0
  | d :: r => uptoBulk d + uptoBulkAll r
def uptoBulkEntries {H : Type} : List (Lit × DataW H) → Nat
  | [] => 0
  | x :: r => uptoBulkEntry x + uptoBulkEntries r
def uptoBulkEntry {H : Type} : Lit × DataW H → Nat
  | (.string bytes, d) => bytes.length + uptoBulk d + 1
  | (_, d) => uptoBulk d + 1
 end
def uptoSmall : (H : Type) → List (DataW H) → Bool := fun _ ds => decide (uptoBulkAll ds ≤ 1048576)
def OpenSpec.upto (s : _root_.Go.ChangeSpec) : _root_.Go.OpenSpec := { _root_.Go.OpenSpec.ofChange s with cond := some uptoSmall }

/-- 'overfalllaw11.PidSamples', WHERE WHAT IT READS IS OF BULK AT MOST 1048576: true; the input reads as it did. -/
def pidSamplesUptoRow : OpenClaim := { program := "ythmapfhemiamhaa", sum := "43bd7742d19596780a7bc2b81d71a76bf0c1fda8cf4f5384e7e06dd6f3651a89", func := "overfall/overfalllaw11.PidSamples", spec := "pidSamples", inPlace := ["math/bits.Add64"], apart := false, narrowed := true }
def PidSamplesUptoSaid : Prop := pidSamplesUptoRow.holds Try.pinned (OpenSpec.upto pidSamplesSpec)

/-- 'overfalllaw11.PidBounds', WHERE WHAT IT READS IS OF BULK AT MOST 1048576: true; the input reads as it did. -/
def pidBoundsUptoRow : OpenClaim := { program := "ythmapfhemiamhaa", sum := "43bd7742d19596780a7bc2b81d71a76bf0c1fda8cf4f5384e7e06dd6f3651a89", func := "overfall/overfalllaw11.PidBounds", spec := "pidBounds", inPlace := ["math/bits.Add64"], apart := false, narrowed := true }
def PidBoundsUptoSaid : Prop := pidBoundsUptoRow.holds Try.pinned (OpenSpec.upto pidBoundsSpec)

/-- 'overfalllaw11.PidFalls', WHERE WHAT IT READS IS OF BULK AT MOST 1048576: true; the input reads as it did. -/
def pidFallsUptoRow : OpenClaim := { program := "ythmapfhemiamhaa", sum := "43bd7742d19596780a7bc2b81d71a76bf0c1fda8cf4f5384e7e06dd6f3651a89", func := "overfall/overfalllaw11.PidFalls", spec := "pidFalls", inPlace := ["math/bits.Add64"], apart := false, narrowed := true }
def PidFallsUptoSaid : Prop := pidFallsUptoRow.holds Try.pinned (OpenSpec.upto pidFallsSpec)

/-- 'overfalllaw11.PidRises', WHERE WHAT IT READS IS OF BULK AT MOST 1048576: true; the input reads as it did. -/
def pidRisesUptoRow : OpenClaim := { program := "ythmapfhemiamhaa", sum := "43bd7742d19596780a7bc2b81d71a76bf0c1fda8cf4f5384e7e06dd6f3651a89", func := "overfall/overfalllaw11.PidRises", spec := "pidRises", inPlace := ["math/bits.Add64"], apart := false, narrowed := true }
def PidRisesUptoSaid : Prop := pidRisesUptoRow.holds Try.pinned (OpenSpec.upto pidRisesSpec)

/-- 'overfalllaw11.PidRests', WHERE WHAT IT READS IS OF BULK AT MOST 1048576: true; the input reads as it did. -/
def pidRestsUptoRow : OpenClaim := { program := "ythmapfhemiamhaa", sum := "43bd7742d19596780a7bc2b81d71a76bf0c1fda8cf4f5384e7e06dd6f3651a89", func := "overfall/overfalllaw11.PidRests", spec := "pidRests", inPlace := ["math/bits.Add64"], apart := false, narrowed := true }
def PidRestsUptoSaid : Prop := pidRestsUptoRow.holds Try.pinned (OpenSpec.upto pidRestsSpec)

end Rows
end Go.Proofs.Ythmapfhemiamhaa
