/-
  No cell of these rows narrows 'for every input' (looked for: loops, veiled, ifaces, maps, wideKeys, modest, calm, conditions, laid).
  DERIVED. THE GIVEN ROWS OF THIS SEAT. 6 by the template 'for every input the law returns true; each argument reads behind the call as it read before'; 0 by the template 'total and deterministic' (their statements: YtiiffgmbkajkhaaTotals.lean).
  GIVEN WITH THE SEED: the statements are not yours to turn. If you find one false, say at which input.
  Laid BY PROGRAM, IN A SANDBOX (cutbox-rows.mjs): the forced cells as the released guide's own fill.sh prints them over the translation 9a054dbacaea6bbf… (all of the seat's roots in one cut). By AI agents, Wed Nov 11 2026. No macro, syntax, notation, axiom, sorry.
-/
import Derived.Test.YtiiffgmbkajkhaaChecked
import GoSem.Claim
import GoSem.ClaimJoined
import GoSem.ClaimMapViews
import Derived.JoinedTies
import Derived.KernelRfl
namespace Go.Proofs.Ytiiffgmbkajkhaa
/- THE CELL 'sum', in the pinned program and in every row, IS THE sha256 OF THE DUMP (.gsa) THAT YtiiffgmbkajkhaaProg.lean LOADS. Nothing in Lean hashes anything: it is a label: what it is worth is what the hold of that sum in a sandbox is worth. -/
noncomputable def Try.pinned : Pinned := { name := "ytiiffgmbkajkhaa", sum := "9a054dbacaea6bbf4a06821f84f51246053212272c738a222521e2501ec33b7f", checked := Try.checked }
namespace Rows
def none {H : Type} : Left H := { results := [], args := [] }

/-- 'overfalllaw08.CodelQuiet': WHATEVER THE INPUT: true; the input reads as it did. -/
def codelQuietSpec : ChangeSpec := { name := "codelQuiet", fn := fun _ => fun
  | [d1, d2, d3, d4] => { results := [.lit (.bool true)], args := [d1, d2, d3, d4] }
  | _ => none }
def codelQuietRow : OpenClaim := { program := "ytiiffgmbkajkhaa", sum := "9a054dbacaea6bbf4a06821f84f51246053212272c738a222521e2501ec33b7f", func := "overfall/overfalllaw08.CodelQuiet", spec := "codelQuiet", inPlace := ["math/bits.Add64"], named := ["math/bits.divideError", "math/bits.overflowError"], apart := false }
def CodelQuietSaid : Prop := codelQuietRow.holds Try.pinned (OpenSpec.ofChange codelQuietSpec)

/-- ITS FALSE NEIGHBOUR: 'it returns false'. Refute it at one input. -/
def codelQuietWrong : ChangeSpec := { name := "codelQuiet", fn := fun _ => fun
  | [d1, d2, d3, d4] => { results := [.lit (.bool false)], args := [d1, d2, d3, d4] }
  | _ => none }
def CodelQuietWrongFalsely : Prop := codelQuietRow.holds Try.pinned (OpenSpec.ofChange codelQuietWrong)

/-- 'overfalllaw08.CodelBack': WHATEVER THE INPUT: true; the input reads as it did. -/
def codelBackSpec : ChangeSpec := { name := "codelBack", fn := fun _ => fun
  | [d1, d2, d3, d4] => { results := [.lit (.bool true)], args := [d1, d2, d3, d4] }
  | _ => none }
def codelBackRow : OpenClaim := { program := "ytiiffgmbkajkhaa", sum := "9a054dbacaea6bbf4a06821f84f51246053212272c738a222521e2501ec33b7f", func := "overfall/overfalllaw08.CodelBack", spec := "codelBack", inPlace := ["math/bits.Add64"], named := ["math/bits.divideError", "math/bits.overflowError"], apart := false }
def CodelBackSaid : Prop := codelBackRow.holds Try.pinned (OpenSpec.ofChange codelBackSpec)

/-- ITS FALSE NEIGHBOUR: 'it returns false'. Refute it at one input. -/
def codelBackWrong : ChangeSpec := { name := "codelBack", fn := fun _ => fun
  | [d1, d2, d3, d4] => { results := [.lit (.bool false)], args := [d1, d2, d3, d4] }
  | _ => none }
def CodelBackWrongFalsely : Prop := codelBackRow.holds Try.pinned (OpenSpec.ofChange codelBackWrong)

/-- 'overfalllaw08.CodelWaits': WHATEVER THE INPUT: true; the input reads as it did. -/
def codelWaitsSpec : ChangeSpec := { name := "codelWaits", fn := fun _ => fun
  | [d1, d2, d3, d4] => { results := [.lit (.bool true)], args := [d1, d2, d3, d4] }
  | _ => none }
def codelWaitsRow : OpenClaim := { program := "ytiiffgmbkajkhaa", sum := "9a054dbacaea6bbf4a06821f84f51246053212272c738a222521e2501ec33b7f", func := "overfall/overfalllaw08.CodelWaits", spec := "codelWaits", inPlace := ["math/bits.Add64"], named := ["math/bits.divideError", "math/bits.overflowError"], apart := false }
def CodelWaitsSaid : Prop := codelWaitsRow.holds Try.pinned (OpenSpec.ofChange codelWaitsSpec)

/-- ITS FALSE NEIGHBOUR: 'it returns false'. Refute it at one input. -/
def codelWaitsWrong : ChangeSpec := { name := "codelWaits", fn := fun _ => fun
  | [d1, d2, d3, d4] => { results := [.lit (.bool false)], args := [d1, d2, d3, d4] }
  | _ => none }
def CodelWaitsWrongFalsely : Prop := codelWaitsRow.holds Try.pinned (OpenSpec.ofChange codelWaitsWrong)

/-- 'overfalllaw08.CodelSpares': WHATEVER THE INPUT: true; the input reads as it did. -/
def codelSparesSpec : ChangeSpec := { name := "codelSpares", fn := fun _ => fun
  | [d1, d2, d3, d4, d5, d6] => { results := [.lit (.bool true)], args := [d1, d2, d3, d4, d5, d6] }
  | _ => none }
def codelSparesRow : OpenClaim := { program := "ytiiffgmbkajkhaa", sum := "9a054dbacaea6bbf4a06821f84f51246053212272c738a222521e2501ec33b7f", func := "overfall/overfalllaw08.CodelSpares", spec := "codelSpares", inPlace := ["math/bits.Add64"], named := ["math/bits.divideError", "math/bits.overflowError"], apart := false }
def CodelSparesSaid : Prop := codelSparesRow.holds Try.pinned (OpenSpec.ofChange codelSparesSpec)

/-- ITS FALSE NEIGHBOUR: 'it returns false'. Refute it at one input. -/
def codelSparesWrong : ChangeSpec := { name := "codelSpares", fn := fun _ => fun
  | [d1, d2, d3, d4, d5, d6] => { results := [.lit (.bool false)], args := [d1, d2, d3, d4, d5, d6] }
  | _ => none }
def CodelSparesWrongFalsely : Prop := codelSparesRow.holds Try.pinned (OpenSpec.ofChange codelSparesWrong)

/-- 'overfalllaw08.CodelRate': WHATEVER THE INPUT: true; the input reads as it did. -/
def codelRateSpec : ChangeSpec := { name := "codelRate", fn := fun _ => fun
  | [d1, d2] => { results := [.lit (.bool true)], args := [d1, d2] }
  | _ => none }
def codelRateRow : OpenClaim := { program := "ytiiffgmbkajkhaa", sum := "9a054dbacaea6bbf4a06821f84f51246053212272c738a222521e2501ec33b7f", func := "overfall/overfalllaw08.CodelRate", spec := "codelRate", inPlace := ["math/bits.Add64"], named := ["math/bits.divideError", "math/bits.overflowError"], apart := false }
def CodelRateSaid : Prop := codelRateRow.holds Try.pinned (OpenSpec.ofChange codelRateSpec)

/-- ITS FALSE NEIGHBOUR: 'it returns false'. Refute it at one input. -/
def codelRateWrong : ChangeSpec := { name := "codelRate", fn := fun _ => fun
  | [d1, d2] => { results := [.lit (.bool false)], args := [d1, d2] }
  | _ => none }
def CodelRateWrongFalsely : Prop := codelRateRow.holds Try.pinned (OpenSpec.ofChange codelRateWrong)

/-- 'overfalllaw08.CodelLooks': WHATEVER THE INPUT: true; the input reads as it did. -/
def codelLooksSpec : ChangeSpec := { name := "codelLooks", fn := fun _ => fun
  | [d1, d2, d3, d4, d5] => { results := [.lit (.bool true)], args := [d1, d2, d3, d4, d5] }
  | _ => none }
def codelLooksRow : OpenClaim := { program := "ytiiffgmbkajkhaa", sum := "9a054dbacaea6bbf4a06821f84f51246053212272c738a222521e2501ec33b7f", func := "overfall/overfalllaw08.CodelLooks", spec := "codelLooks", inPlace := ["math/bits.Add64"], named := ["math/bits.divideError", "math/bits.overflowError"], apart := false }
def CodelLooksSaid : Prop := codelLooksRow.holds Try.pinned (OpenSpec.ofChange codelLooksSpec)

/-- ITS FALSE NEIGHBOUR: 'it returns false'. Refute it at one input. -/
def codelLooksWrong : ChangeSpec := { name := "codelLooks", fn := fun _ => fun
  | [d1, d2, d3, d4, d5] => { results := [.lit (.bool false)], args := [d1, d2, d3, d4, d5] }
  | _ => none }
def CodelLooksWrongFalsely : Prop := codelLooksRow.holds Try.pinned (OpenSpec.ofChange codelLooksWrong)

/- THE SECOND FORM. 'bulk': how many values and letters a reading holds, each counted each time it is reached (what is shared counts as often as it is met; a slice's spare places count too). A statement '..UptoSaid' is the law's where the arguments, and the package variables that the reading takes, are together of bulk at most 1048576: NARROWER than '..Said'. Prove '..Said' where nothing that the law and all that it calls make is longer than what came in: it says more and counts as full. Else prove '..UptoSaid'. A law counts once. -/
mutual
def uptoBulk {H : Type} : DataW H → Nat
  | .lit (.string bytes) => bytes.length + 1
  | .lit _ => 1
  | .nil => 1
  | .ptr d => uptoBulk d + 1
  | .slice elems spare => uptoBulkAll elems + uptoBulkAll spare + 1
  | .agg parts => uptoBulkAll parts + 1
  | .iface _ d => uptoBulk d + 1
  | .map entries => uptoBulkEntries entries + 1
  | .held _ => 1
def uptoBulkAll {H : Type} : List (DataW H) → Nat
  | [] => 0
  | d :: r => uptoBulk d + uptoBulkAll r
def uptoBulkEntries {H : Type} : List (Lit × DataW H) → Nat
  | [] => 0
  | x :: r => uptoBulkEntry x + uptoBulkEntries r
def uptoBulkEntry {H : Type} : Lit × DataW H → Nat
  | (.string bytes, d) => bytes.length + uptoBulk d + 1
  | (_, d) => uptoBulk d + 1
 end
def uptoSmall : (H : Type) → List (DataW H) → Bool := fun _ ds => decide (uptoBulkAll ds ≤ 1048576)
def OpenSpec.upto (s : _root_.Go.ChangeSpec) : _root_.Go.OpenSpec := { _root_.Go.OpenSpec.ofChange s with cond := some uptoSmall }

/-- 'overfalllaw08.CodelQuiet', WHERE WHAT IT READS IS OF BULK AT MOST 1048576: true; the input reads as it did. -/
def codelQuietUptoRow : OpenClaim := { program := "ytiiffgmbkajkhaa", sum := "9a054dbacaea6bbf4a06821f84f51246053212272c738a222521e2501ec33b7f", func := "overfall/overfalllaw08.CodelQuiet", spec := "codelQuiet", inPlace := ["math/bits.Add64"], named := ["math/bits.divideError", "math/bits.overflowError"], apart := false, narrowed := true }
def CodelQuietUptoSaid : Prop := codelQuietUptoRow.holds Try.pinned (OpenSpec.upto codelQuietSpec)

/-- 'overfalllaw08.CodelBack', WHERE WHAT IT READS IS OF BULK AT MOST 1048576: true; the input reads as it did. -/
def codelBackUptoRow : OpenClaim := { program := "ytiiffgmbkajkhaa", sum := "9a054dbacaea6bbf4a06821f84f51246053212272c738a222521e2501ec33b7f", func := "overfall/overfalllaw08.CodelBack", spec := "codelBack", inPlace := ["math/bits.Add64"], named := ["math/bits.divideError", "math/bits.overflowError"], apart := false, narrowed := true }
def CodelBackUptoSaid : Prop := codelBackUptoRow.holds Try.pinned (OpenSpec.upto codelBackSpec)

/-- 'overfalllaw08.CodelWaits', WHERE WHAT IT READS IS OF BULK AT MOST 1048576: true; the input reads as it did. -/
def codelWaitsUptoRow : OpenClaim := { program := "ytiiffgmbkajkhaa", sum := "9a054dbacaea6bbf4a06821f84f51246053212272c738a222521e2501ec33b7f", func := "overfall/overfalllaw08.CodelWaits", spec := "codelWaits", inPlace := ["math/bits.Add64"], named := ["math/bits.divideError", "math/bits.overflowError"], apart := false, narrowed := true }
def CodelWaitsUptoSaid : Prop := codelWaitsUptoRow.holds Try.pinned (OpenSpec.upto codelWaitsSpec)

/-- 'overfalllaw08.CodelSpares', WHERE WHAT IT READS IS OF BULK AT MOST 1048576: true; the input reads as it did. -/
def codelSparesUptoRow : OpenClaim := { program := "ytiiffgmbkajkhaa", sum := "9a054dbacaea6bbf4a06821f84f51246053212272c738a222521e2501ec33b7f", func := "overfall/overfalllaw08.CodelSpares", spec := "codelSpares", inPlace := ["math/bits.Add64"], named := ["math/bits.divideError", "math/bits.overflowError"], apart := false, narrowed := true }
def CodelSparesUptoSaid : Prop := codelSparesUptoRow.holds Try.pinned (OpenSpec.upto codelSparesSpec)

/-- 'overfalllaw08.CodelRate', WHERE WHAT IT READS IS OF BULK AT MOST 1048576: true; the input reads as it did. -/
def codelRateUptoRow : OpenClaim := { program := "ytiiffgmbkajkhaa", sum := "9a054dbacaea6bbf4a06821f84f51246053212272c738a222521e2501ec33b7f", func := "overfall/overfalllaw08.CodelRate", spec := "codelRate", inPlace := ["math/bits.Add64"], named := ["math/bits.divideError", "math/bits.overflowError"], apart := false, narrowed := true }
def CodelRateUptoSaid : Prop := codelRateUptoRow.holds Try.pinned (OpenSpec.upto codelRateSpec)

/-- 'overfalllaw08.CodelLooks', WHERE WHAT IT READS IS OF BULK AT MOST 1048576: true; the input reads as it did. -/
def codelLooksUptoRow : OpenClaim := { program := "ytiiffgmbkajkhaa", sum := "9a054dbacaea6bbf4a06821f84f51246053212272c738a222521e2501ec33b7f", func := "overfall/overfalllaw08.CodelLooks", spec := "codelLooks", inPlace := ["math/bits.Add64"], named := ["math/bits.divideError", "math/bits.overflowError"], apart := false, narrowed := true }
def CodelLooksUptoSaid : Prop := codelLooksUptoRow.holds Try.pinned (OpenSpec.upto codelLooksSpec)

end Rows
end Go.Proofs.Ytiiffgmbkajkhaa
