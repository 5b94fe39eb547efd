/-
  No cell of these rows narrows 'for every input' (looked for: loops, veiled, ifaces, maps, wideKeys, modest, calm, conditions, laid).
  DERIVED. THE GIVEN ROWS OF THIS SEAT. 7 by the template 'for every input the law returns true; each argument reads behind the call as it read before'; 0 by the template 'total and deterministic' (their statements: YtjgjmeefieikaaaTotals.lean).
  GIVEN WITH THE SEED: the statements are not yours to turn. If you find one false, say at which input.
  Laid BY PROGRAM, IN A SANDBOX (cutbox-rows.mjs): the forced cells as the released guide's own fill.sh prints them over the translation b90e90000657c364… (all of the seat's roots in one cut). By AI agents, Wed Nov 11 2026. No macro, syntax, notation, axiom, sorry.
-/
import Derived.Test.YtjgjmeefieikaaaChecked
import GoSem.Claim
import GoSem.ClaimJoined
import GoSem.ClaimMapViews
import Derived.JoinedTies
import Derived.KernelRfl
namespace Go.Proofs.Ytjgjmeefieikaaa
/- THE CELL 'sum', in the pinned program and in every row, IS THE sha256 OF THE DUMP (.gsa) THAT YtjgjmeefieikaaaProg.lean LOADS. Nothing in Lean hashes anything: it is a label: what it is worth is what the hold of that sum in a sandbox is worth. -/
noncomputable def Try.pinned : Pinned := { name := "ytjgjmeefieikaaa", sum := "b90e90000657c364fd4aecc7a70737d49f80ee27cfe81cd2838970461dffb4a8", checked := Try.checked }
namespace Rows
def none {H : Type} : Left H := { results := [], args := [] }

/-- 'overfalllaw02.FixMuls': WHATEVER THE INPUT: true; the input reads as it did. -/
def fixMulsSpec : ChangeSpec := { name := "fixMuls", fn := fun _ => fun
  | [d1, d2] => { results := [.lit (.bool true)], args := [d1, d2] }
  | _ => none }
def fixMulsRow : OpenClaim := { program := "ytjgjmeefieikaaa", sum := "b90e90000657c364fd4aecc7a70737d49f80ee27cfe81cd2838970461dffb4a8", func := "overfall/overfalllaw02.FixMuls", spec := "fixMuls", inPlace := ["math/bits.Add64"], named := ["math/bits.divideError", "math/bits.overflowError"], apart := false }
def FixMulsSaid : Prop := fixMulsRow.holds Try.pinned (OpenSpec.ofChange fixMulsSpec)

/-- ITS FALSE NEIGHBOUR: 'it returns false'. Refute it at one input. -/
def fixMulsWrong : ChangeSpec := { name := "fixMuls", fn := fun _ => fun
  | [d1, d2] => { results := [.lit (.bool false)], args := [d1, d2] }
  | _ => none }
def FixMulsWrongFalsely : Prop := fixMulsRow.holds Try.pinned (OpenSpec.ofChange fixMulsWrong)

/-- 'overfalllaw02.FixRatios': WHATEVER THE INPUT: true; the input reads as it did. -/
def fixRatiosSpec : ChangeSpec := { name := "fixRatios", fn := fun _ => fun
  | [d1, d2] => { results := [.lit (.bool true)], args := [d1, d2] }
  | _ => none }
def fixRatiosRow : OpenClaim := { program := "ytjgjmeefieikaaa", sum := "b90e90000657c364fd4aecc7a70737d49f80ee27cfe81cd2838970461dffb4a8", func := "overfall/overfalllaw02.FixRatios", spec := "fixRatios", inPlace := ["math/bits.Add64"], named := ["math/bits.divideError", "math/bits.overflowError"], apart := false }
def FixRatiosSaid : Prop := fixRatiosRow.holds Try.pinned (OpenSpec.ofChange fixRatiosSpec)

/-- ITS FALSE NEIGHBOUR: 'it returns false'. Refute it at one input. -/
def fixRatiosWrong : ChangeSpec := { name := "fixRatios", fn := fun _ => fun
  | [d1, d2] => { results := [.lit (.bool false)], args := [d1, d2] }
  | _ => none }
def FixRatiosWrongFalsely : Prop := fixRatiosRow.holds Try.pinned (OpenSpec.ofChange fixRatiosWrong)

/-- 'overfalllaw02.FixClamps': WHATEVER THE INPUT: true; the input reads as it did. -/
def fixClampsSpec : ChangeSpec := { name := "fixClamps", fn := fun _ => fun
  | [d1, d2, d3] => { results := [.lit (.bool true)], args := [d1, d2, d3] }
  | _ => none }
def fixClampsRow : OpenClaim := { program := "ytjgjmeefieikaaa", sum := "b90e90000657c364fd4aecc7a70737d49f80ee27cfe81cd2838970461dffb4a8", func := "overfall/overfalllaw02.FixClamps", spec := "fixClamps", inPlace := ["math/bits.Add64"], named := ["math/bits.divideError", "math/bits.overflowError"], apart := false }
def FixClampsSaid : Prop := fixClampsRow.holds Try.pinned (OpenSpec.ofChange fixClampsSpec)

/-- ITS FALSE NEIGHBOUR: 'it returns false'. Refute it at one input. -/
def fixClampsWrong : ChangeSpec := { name := "fixClamps", fn := fun _ => fun
  | [d1, d2, d3] => { results := [.lit (.bool false)], args := [d1, d2, d3] }
  | _ => none }
def FixClampsWrongFalsely : Prop := fixClampsRow.holds Try.pinned (OpenSpec.ofChange fixClampsWrong)

/-- 'overfalllaw02.FixTimes': WHATEVER THE INPUT: true; the input reads as it did. -/
def fixTimesSpec : ChangeSpec := { name := "fixTimes", fn := fun _ => fun
  | [d1, d2] => { results := [.lit (.bool true)], args := [d1, d2] }
  | _ => none }
def fixTimesRow : OpenClaim := { program := "ytjgjmeefieikaaa", sum := "b90e90000657c364fd4aecc7a70737d49f80ee27cfe81cd2838970461dffb4a8", func := "overfall/overfalllaw02.FixTimes", spec := "fixTimes", inPlace := ["math/bits.Add64"], named := ["math/bits.divideError", "math/bits.overflowError"], apart := false }
def FixTimesSaid : Prop := fixTimesRow.holds Try.pinned (OpenSpec.ofChange fixTimesSpec)

/-- ITS FALSE NEIGHBOUR: 'it returns false'. Refute it at one input. -/
def fixTimesWrong : ChangeSpec := { name := "fixTimes", fn := fun _ => fun
  | [d1, d2] => { results := [.lit (.bool false)], args := [d1, d2] }
  | _ => none }
def FixTimesWrongFalsely : Prop := fixTimesRow.holds Try.pinned (OpenSpec.ofChange fixTimesWrong)

/-- 'overfalllaw02.FixAdds': WHATEVER THE INPUT: true; the input reads as it did. -/
def fixAddsSpec : ChangeSpec := { name := "fixAdds", fn := fun _ => fun
  | [d1, d2] => { results := [.lit (.bool true)], args := [d1, d2] }
  | _ => none }
def fixAddsRow : OpenClaim := { program := "ytjgjmeefieikaaa", sum := "b90e90000657c364fd4aecc7a70737d49f80ee27cfe81cd2838970461dffb4a8", func := "overfall/overfalllaw02.FixAdds", spec := "fixAdds", inPlace := ["math/bits.Add64"], named := ["math/bits.divideError", "math/bits.overflowError"], apart := false }
def FixAddsSaid : Prop := fixAddsRow.holds Try.pinned (OpenSpec.ofChange fixAddsSpec)

/-- ITS FALSE NEIGHBOUR: 'it returns false'. Refute it at one input. -/
def fixAddsWrong : ChangeSpec := { name := "fixAdds", fn := fun _ => fun
  | [d1, d2] => { results := [.lit (.bool false)], args := [d1, d2] }
  | _ => none }
def FixAddsWrongFalsely : Prop := fixAddsRow.holds Try.pinned (OpenSpec.ofChange fixAddsWrong)

/-- 'overfalllaw02.FixOrders': WHATEVER THE INPUT: true; the input reads as it did. -/
def fixOrdersSpec : ChangeSpec := { name := "fixOrders", fn := fun _ => fun
  | [d1, d2, d3] => { results := [.lit (.bool true)], args := [d1, d2, d3] }
  | _ => none }
def fixOrdersRow : OpenClaim := { program := "ytjgjmeefieikaaa", sum := "b90e90000657c364fd4aecc7a70737d49f80ee27cfe81cd2838970461dffb4a8", func := "overfall/overfalllaw02.FixOrders", spec := "fixOrders", inPlace := ["math/bits.Add64"], named := ["math/bits.divideError", "math/bits.overflowError"], apart := false }
def FixOrdersSaid : Prop := fixOrdersRow.holds Try.pinned (OpenSpec.ofChange fixOrdersSpec)

/-- ITS FALSE NEIGHBOUR: 'it returns false'. Refute it at one input. -/
def fixOrdersWrong : ChangeSpec := { name := "fixOrders", fn := fun _ => fun
  | [d1, d2, d3] => { results := [.lit (.bool false)], args := [d1, d2, d3] }
  | _ => none }
def FixOrdersWrongFalsely : Prop := fixOrdersRow.holds Try.pinned (OpenSpec.ofChange fixOrdersWrong)

/-- 'overfalllaw02.FixBack': WHATEVER THE INPUT: true; the input reads as it did. -/
def fixBackSpec : ChangeSpec := { name := "fixBack", fn := fun _ => fun
  | [d1, d2, d3] => { results := [.lit (.bool true)], args := [d1, d2, d3] }
  | _ => none }
def fixBackRow : OpenClaim := { program := "ytjgjmeefieikaaa", sum := "b90e90000657c364fd4aecc7a70737d49f80ee27cfe81cd2838970461dffb4a8", func := "overfall/overfalllaw02.FixBack", spec := "fixBack", inPlace := ["math/bits.Add64"], named := ["math/bits.divideError", "math/bits.overflowError"], apart := false }
def FixBackSaid : Prop := fixBackRow.holds Try.pinned (OpenSpec.ofChange fixBackSpec)

/-- ITS FALSE NEIGHBOUR: 'it returns false'. Refute it at one input. -/
def fixBackWrong : ChangeSpec := { name := "fixBack", fn := fun _ => fun
  | [d1, d2, d3] => { results := [.lit (.bool false)], args := [d1, d2, d3] }
  | _ => none }
def FixBackWrongFalsely : Prop := fixBackRow.holds Try.pinned (OpenSpec.ofChange fixBackWrong)

/- THE SECOND FORM. 'bulk': how many values and letters a reading holds, each counted each time it is reached (what is shared counts as often as it is met; a slice's spare places count too). A statement '..UptoSaid' is the law's where the arguments, and the package variables that the reading takes, are together of bulk at most 1048576: NARROWER than '..Said'. Prove '..Said' where nothing that the law and all that it calls make is longer than what came in: it says more and counts as full. Else prove '..UptoSaid'. A law counts once. -/
mutual
def uptoBulk {H : Type} : DataW H → Nat
  | .lit (.string bytes) => bytes.length + 1
  | .lit _ => 1
  | .nil => 1
  | .ptr d => uptoBulk d + 1
  | .slice elems spare => uptoBulkAll elems + uptoBulkAll spare + 1
  | .agg parts => uptoBulkAll parts + 1
  | .iface _ d => uptoBulk d + 1
  | .map entries => uptoBulkEntries entries + 1
  | .held _ => 1
def uptoBulkAll {H : Type} : List (DataW H) → Nat
  | [] => 0
  | d :: r => uptoBulk d + uptoBulkAll r
def uptoBulkEntries {H : Type} : List (Lit × DataW H) → Nat
  | [] => 0
  | x :: r => uptoBulkEntry x + uptoBulkEntries r
def uptoBulkEntry {H : Type} : Lit × DataW H → Nat
  | (.string bytes, d) => bytes.length + uptoBulk d + 1
  | (_, d) => uptoBulk d + 1
 end
def uptoSmall : (H : Type) → List (DataW H) → Bool := fun _ ds => decide (uptoBulkAll ds ≤ 1048576)
def OpenSpec.upto (s : _root_.Go.ChangeSpec) : _root_.Go.OpenSpec := { _root_.Go.OpenSpec.ofChange s with cond := some uptoSmall }

/-- 'overfalllaw02.FixMuls', WHERE WHAT IT READS IS OF BULK AT MOST 1048576: true; the input reads as it did. -/
def fixMulsUptoRow : OpenClaim := { program := "ytjgjmeefieikaaa", sum := "b90e90000657c364fd4aecc7a70737d49f80ee27cfe81cd2838970461dffb4a8", func := "overfall/overfalllaw02.FixMuls", spec := "fixMuls", inPlace := ["math/bits.Add64"], named := ["math/bits.divideError", "math/bits.overflowError"], apart := false, narrowed := true }
def FixMulsUptoSaid : Prop := fixMulsUptoRow.holds Try.pinned (OpenSpec.upto fixMulsSpec)

/-- 'overfalllaw02.FixRatios', WHERE WHAT IT READS IS OF BULK AT MOST 1048576: true; the input reads as it did. -/
def fixRatiosUptoRow : OpenClaim := { program := "ytjgjmeefieikaaa", sum := "b90e90000657c364fd4aecc7a70737d49f80ee27cfe81cd2838970461dffb4a8", func := "overfall/overfalllaw02.FixRatios", spec := "fixRatios", inPlace := ["math/bits.Add64"], named := ["math/bits.divideError", "math/bits.overflowError"], apart := false, narrowed := true }
def FixRatiosUptoSaid : Prop := fixRatiosUptoRow.holds Try.pinned (OpenSpec.upto fixRatiosSpec)

/-- 'overfalllaw02.FixClamps', WHERE WHAT IT READS IS OF BULK AT MOST 1048576: true; the input reads as it did. -/
def fixClampsUptoRow : OpenClaim := { program := "ytjgjmeefieikaaa", sum := "b90e90000657c364fd4aecc7a70737d49f80ee27cfe81cd2838970461dffb4a8", func := "overfall/overfalllaw02.FixClamps", spec := "fixClamps", inPlace := ["math/bits.Add64"], named := ["math/bits.divideError", "math/bits.overflowError"], apart := false, narrowed := true }
def FixClampsUptoSaid : Prop := fixClampsUptoRow.holds Try.pinned (OpenSpec.upto fixClampsSpec)

/-- 'overfalllaw02.FixTimes', WHERE WHAT IT READS IS OF BULK AT MOST 1048576: true; the input reads as it did. -/
def fixTimesUptoRow : OpenClaim := { program := "ytjgjmeefieikaaa", sum := "b90e90000657c364fd4aecc7a70737d49f80ee27cfe81cd2838970461dffb4a8", func := "overfall/overfalllaw02.FixTimes", spec := "fixTimes", inPlace := ["math/bits.Add64"], named := ["math/bits.divideError", "math/bits.overflowError"], apart := false, narrowed := true }
def FixTimesUptoSaid : Prop := fixTimesUptoRow.holds Try.pinned (OpenSpec.upto fixTimesSpec)

/-- 'overfalllaw02.FixAdds', WHERE WHAT IT READS IS OF BULK AT MOST 1048576: true; the input reads as it did. -/
def fixAddsUptoRow : OpenClaim := { program := "ytjgjmeefieikaaa", sum := "b90e90000657c364fd4aecc7a70737d49f80ee27cfe81cd2838970461dffb4a8", func := "overfall/overfalllaw02.FixAdds", spec := "fixAdds", inPlace := ["math/bits.Add64"], named := ["math/bits.divideError", "math/bits.overflowError"], apart := false, narrowed := true }
def FixAddsUptoSaid : Prop := fixAddsUptoRow.holds Try.pinned (OpenSpec.upto fixAddsSpec)

/-- 'overfalllaw02.FixOrders', WHERE WHAT IT READS IS OF BULK AT MOST 1048576: true; the input reads as it did. -/
def fixOrdersUptoRow : OpenClaim := { program := "ytjgjmeefieikaaa", sum := "b90e90000657c364fd4aecc7a70737d49f80ee27cfe81cd2838970461dffb4a8", func := "overfall/overfalllaw02.FixOrders", spec := "fixOrders", inPlace := ["math/bits.Add64"], named := ["math/bits.divideError", "math/bits.overflowError"], apart := false, narrowed := true }
def FixOrdersUptoSaid : Prop := fixOrdersUptoRow.holds Try.pinned (OpenSpec.upto fixOrdersSpec)

/-- 'overfalllaw02.FixBack', WHERE WHAT IT READS IS OF BULK AT MOST 1048576: true; the input reads as it did. -/
def fixBackUptoRow : OpenClaim := { program := "ytjgjmeefieikaaa", sum := "b90e90000657c364fd4aecc7a70737d49f80ee27cfe81cd2838970461dffb4a8", func := "overfall/overfalllaw02.FixBack", spec := "fixBack", inPlace := ["math/bits.Add64"], named := ["math/bits.divideError", "math/bits.overflowError"], apart := false, narrowed := true }
def FixBackUptoSaid : Prop := fixBackUptoRow.holds Try.pinned (OpenSpec.upto fixBackSpec)

end Rows
end Go.Proofs.Ytjgjmeefieikaaa
