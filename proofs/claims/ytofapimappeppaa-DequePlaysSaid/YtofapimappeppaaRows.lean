/-
  No cell of these rows narrows 'for every input' (looked for: loops, veiled, ifaces, maps, wideKeys, modest, calm, conditions, laid).
  DERIVED. THE GIVEN ROWS OF THIS SEAT. 5 by the template 'for every input the law returns true; each argument reads behind the call as it read before'; 0 by the template 'total and deterministic' (their statements: YtofapimappeppaaTotals.lean).
  GIVEN WITH THE SEED: the statements are not yours to turn. If you find one false, say at which input.
  Laid BY PROGRAM, IN A SANDBOX (cutbox-rows.mjs): the forced cells as the released guide's own fill.sh prints them over the translation 217117effdfa03eb… (all of the seat's roots in one cut). By AI agents, Wed Nov 11 2026. No macro, syntax, notation, axiom, sorry.
-/
import Derived.Test.YtofapimappeppaaChecked
import GoSem.Claim
import GoSem.ClaimJoined
import GoSem.ClaimMapViews
import Derived.JoinedTies
import Derived.KernelRfl
namespace Go.Proofs.Ytofapimappeppaa
/- THE CELL 'sum', in the pinned program and in every row, IS THE sha256 OF THE DUMP (.gsa) THAT YtofapimappeppaaProg.lean LOADS. Nothing in Lean hashes anything: it is a label: what it is worth is what the hold of that sum in a sandbox is worth. -/
noncomputable def Try.pinned : Pinned := { name := "ytofapimappeppaa", sum := "217117effdfa03eb4ed1d61c4905912749e7a597a7e79590ae3d2a3afc553bb9", checked := Try.checked }
namespace Rows
def none {H : Type} : Left H := { results := [], args := [] }

/-- 'overfalllaw06.DequeStops': WHATEVER THE INPUT: true; the input reads as it did. -/
def dequeStopsSpec : ChangeSpec := { name := "dequeStops", fn := fun _ => fun
  | [d1, d2, d3] => { results := [.lit (.bool true)], args := [d1, d2, d3] }
  | _ => none }
def dequeStopsRow : OpenClaim := { program := "ytofapimappeppaa", sum := "217117effdfa03eb4ed1d61c4905912749e7a597a7e79590ae3d2a3afc553bb9", func := "overfall/overfalllaw06.DequeStops", spec := "dequeStops", unfollowed := true, recurses := true, apart := false }
def DequeStopsSaid : Prop := dequeStopsRow.holds Try.pinned (OpenSpec.ofChange dequeStopsSpec)

/-- ITS FALSE NEIGHBOUR: 'it returns false'. Refute it at one input. -/
def dequeStopsWrong : ChangeSpec := { name := "dequeStops", fn := fun _ => fun
  | [d1, d2, d3] => { results := [.lit (.bool false)], args := [d1, d2, d3] }
  | _ => none }
def DequeStopsWrongFalsely : Prop := dequeStopsRow.holds Try.pinned (OpenSpec.ofChange dequeStopsWrong)

/-- 'overfalllaw06.DequeQueues': WHATEVER THE INPUT: true; the input reads as it did. -/
def dequeQueuesSpec : ChangeSpec := { name := "dequeQueues", fn := fun _ => fun
  | [d1, d2] => { results := [.lit (.bool true)], args := [d1, d2] }
  | _ => none }
def dequeQueuesRow : OpenClaim := { program := "ytofapimappeppaa", sum := "217117effdfa03eb4ed1d61c4905912749e7a597a7e79590ae3d2a3afc553bb9", func := "overfall/overfalllaw06.DequeQueues", spec := "dequeQueues", apart := false }
def DequeQueuesSaid : Prop := dequeQueuesRow.holds Try.pinned (OpenSpec.ofChange dequeQueuesSpec)

/-- ITS FALSE NEIGHBOUR: 'it returns false'. Refute it at one input. -/
def dequeQueuesWrong : ChangeSpec := { name := "dequeQueues", fn := fun _ => fun
  | [d1, d2] => { results := [.lit (.bool false)], args := [d1, d2] }
  | _ => none }
def DequeQueuesWrongFalsely : Prop := dequeQueuesRow.holds Try.pinned (OpenSpec.ofChange dequeQueuesWrong)

/-- 'overfalllaw06.DequeNil': WHATEVER THE INPUT: true; the input reads as it did. -/
def dequeNilSpec : ChangeSpec := { name := "dequeNil", fn := fun _ => fun
  | [d1, d2, d3, d4] => { results := [.lit (.bool true)], args := [d1, d2, d3, d4] }
  | _ => none }
def dequeNilRow : OpenClaim := { program := "ytofapimappeppaa", sum := "217117effdfa03eb4ed1d61c4905912749e7a597a7e79590ae3d2a3afc553bb9", func := "overfall/overfalllaw06.DequeNil", spec := "dequeNil", unfollowed := true, recurses := true, apart := false }
def DequeNilSaid : Prop := dequeNilRow.holds Try.pinned (OpenSpec.ofChange dequeNilSpec)

/-- ITS FALSE NEIGHBOUR: 'it returns false'. Refute it at one input. -/
def dequeNilWrong : ChangeSpec := { name := "dequeNil", fn := fun _ => fun
  | [d1, d2, d3, d4] => { results := [.lit (.bool false)], args := [d1, d2, d3, d4] }
  | _ => none }
def DequeNilWrongFalsely : Prop := dequeNilRow.holds Try.pinned (OpenSpec.ofChange dequeNilWrong)

/-- 'overfalllaw06.DequePlays': WHATEVER THE INPUT: true; the input reads as it did. -/
def dequePlaysSpec : ChangeSpec := { name := "dequePlays", fn := fun _ => fun
  | [d1, d2, d3] => { results := [.lit (.bool true)], args := [d1, d2, d3] }
  | _ => none }
def dequePlaysRow : OpenClaim := { program := "ytofapimappeppaa", sum := "217117effdfa03eb4ed1d61c4905912749e7a597a7e79590ae3d2a3afc553bb9", func := "overfall/overfalllaw06.DequePlays", spec := "dequePlays", unfollowed := true, recurses := true, apart := false }
def DequePlaysSaid : Prop := dequePlaysRow.holds Try.pinned (OpenSpec.ofChange dequePlaysSpec)

/-- ITS FALSE NEIGHBOUR: 'it returns false'. Refute it at one input. -/
def dequePlaysWrong : ChangeSpec := { name := "dequePlays", fn := fun _ => fun
  | [d1, d2, d3] => { results := [.lit (.bool false)], args := [d1, d2, d3] }
  | _ => none }
def DequePlaysWrongFalsely : Prop := dequePlaysRow.holds Try.pinned (OpenSpec.ofChange dequePlaysWrong)

/-- 'overfalllaw06.DequeParts': WHATEVER THE INPUT: true; the input reads as it did. -/
def dequePartsSpec : ChangeSpec := { name := "dequeParts", fn := fun _ => fun
  | [d1, d2] => { results := [.lit (.bool true)], args := [d1, d2] }
  | _ => none }
def dequePartsRow : OpenClaim := { program := "ytofapimappeppaa", sum := "217117effdfa03eb4ed1d61c4905912749e7a597a7e79590ae3d2a3afc553bb9", func := "overfall/overfalllaw06.DequeParts", spec := "dequeParts", unfollowed := true, recurses := true, apart := false }
def DequePartsSaid : Prop := dequePartsRow.holds Try.pinned (OpenSpec.ofChange dequePartsSpec)

/-- ITS FALSE NEIGHBOUR: 'it returns false'. Refute it at one input. -/
def dequePartsWrong : ChangeSpec := { name := "dequeParts", fn := fun _ => fun
  | [d1, d2] => { results := [.lit (.bool false)], args := [d1, d2] }
  | _ => none }
def DequePartsWrongFalsely : Prop := dequePartsRow.holds Try.pinned (OpenSpec.ofChange dequePartsWrong)

/- THE SECOND FORM. 'bulk': how many values and letters a reading holds, each counted each time it is reached (what is shared counts as often as it is met; a slice's spare places count too). A statement '..UptoSaid' is the law's where the arguments, and the package variables that the reading takes, are together of bulk at most 1048576: NARROWER than '..Said'. Prove '..Said' where nothing that the law and all that it calls make is longer than what came in: it says more and counts as full. Else prove '..UptoSaid'. A law counts once. -/
mutual
def uptoBulk {H : Type} : DataW H → Nat
  | .lit (.string bytes) => bytes.length + 1
  | .lit _ => 1
  | .nil => 1
  | .ptr d => uptoBulk d + 1
  | .slice elems spare => uptoBulkAll elems + uptoBulkAll spare + 1
  | .agg parts => uptoBulkAll parts + 1
  | .iface _ d => uptoBulk d + 1
  | .map entries => uptoBulkEntries entries + 1
  | .held _ => 1
def uptoBulkAll {H : Type} : List (DataW H) → Nat
  | [] => 0
  | d :: r => uptoBulk d + uptoBulkAll r
def uptoBulkEntries {H : Type} : List (Lit × DataW H) → Nat
  | [] => 0
  | x :: r => uptoBulkEntry x + uptoBulkEntries r
def uptoBulkEntry {H : Type} : Lit × DataW H → Nat
  | (.string bytes, d) => bytes.length + uptoBulk d + 1
  | (_, d) => uptoBulk d + 1
 end
def uptoSmall : (H : Type) → List (DataW H) → Bool := fun _ ds => decide (uptoBulkAll ds ≤ 1048576)
def OpenSpec.upto (s : _root_.Go.ChangeSpec) : _root_.Go.OpenSpec := { _root_.Go.OpenSpec.ofChange s with cond := some uptoSmall }

/-- 'overfalllaw06.DequeStops', WHERE WHAT IT READS IS OF BULK AT MOST 1048576: true; the input reads as it did. -/
def dequeStopsUptoRow : OpenClaim := { program := "ytofapimappeppaa", sum := "217117effdfa03eb4ed1d61c4905912749e7a597a7e79590ae3d2a3afc553bb9", func := "overfall/overfalllaw06.DequeStops", spec := "dequeStops", unfollowed := true, recurses := true, apart := false, narrowed := true }
def DequeStopsUptoSaid : Prop := dequeStopsUptoRow.holds Try.pinned (OpenSpec.upto dequeStopsSpec)

/-- 'overfalllaw06.DequeQueues', WHERE WHAT IT READS IS OF BULK AT MOST 1048576: true; the input reads as it did. -/
def dequeQueuesUptoRow : OpenClaim := { program := "ytofapimappeppaa", sum := "217117effdfa03eb4ed1d61c4905912749e7a597a7e79590ae3d2a3afc553bb9", func := "overfall/overfalllaw06.DequeQueues", spec := "dequeQueues", apart := false, narrowed := true }
def DequeQueuesUptoSaid : Prop := dequeQueuesUptoRow.holds Try.pinned (OpenSpec.upto dequeQueuesSpec)

/-- 'overfalllaw06.DequeNil', WHERE WHAT IT READS IS OF BULK AT MOST 1048576: true; the input reads as it did. -/
def dequeNilUptoRow : OpenClaim := { program := "ytofapimappeppaa", sum := "217117effdfa03eb4ed1d61c4905912749e7a597a7e79590ae3d2a3afc553bb9", func := "overfall/overfalllaw06.DequeNil", spec := "dequeNil", unfollowed := true, recurses := true, apart := false, narrowed := true }
def DequeNilUptoSaid : Prop := dequeNilUptoRow.holds Try.pinned (OpenSpec.upto dequeNilSpec)

/-- 'overfalllaw06.DequePlays', WHERE WHAT IT READS IS OF BULK AT MOST 1048576: true; the input reads as it did. -/
def dequePlaysUptoRow : OpenClaim := { program := "ytofapimappeppaa", sum := "217117effdfa03eb4ed1d61c4905912749e7a597a7e79590ae3d2a3afc553bb9", func := "overfall/overfalllaw06.DequePlays", spec := "dequePlays", unfollowed := true, recurses := true, apart := false, narrowed := true }
def DequePlaysUptoSaid : Prop := dequePlaysUptoRow.holds Try.pinned (OpenSpec.upto dequePlaysSpec)

/-- 'overfalllaw06.DequeParts', WHERE WHAT IT READS IS OF BULK AT MOST 1048576: true; the input reads as it did. -/
def dequePartsUptoRow : OpenClaim := { program := "ytofapimappeppaa", sum := "217117effdfa03eb4ed1d61c4905912749e7a597a7e79590ae3d2a3afc553bb9", func := "overfall/overfalllaw06.DequeParts", spec := "dequeParts", unfollowed := true, recurses := true, apart := false, narrowed := true }
def DequePartsUptoSaid : Prop := dequePartsUptoRow.holds Try.pinned (OpenSpec.upto dequePartsSpec)

end Rows
end Go.Proofs.Ytofapimappeppaa
