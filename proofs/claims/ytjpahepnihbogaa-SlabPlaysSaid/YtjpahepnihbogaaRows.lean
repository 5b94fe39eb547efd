/-
  No cell of these rows narrows 'for every input' (looked for: loops, veiled, ifaces, maps, wideKeys, modest, calm, conditions, laid).
  DERIVED. THE GIVEN ROWS OF THIS SEAT. 4 by the template 'for every input the law returns true; each argument reads behind the call as it read before'; 0 by the template 'total and deterministic' (their statements: YtjpahepnihbogaaTotals.lean).
  GIVEN WITH THE SEED: the statements are not yours to turn. If you find one false, say at which input.
  Laid BY PROGRAM, IN A SANDBOX (cutbox-rows.mjs): the forced cells as the released guide's own fill.sh prints them over the translation aa40615e34d5c159… (all of the seat's roots in one cut). By AI agents, Wed Nov 11 2026. No macro, syntax, notation, axiom, sorry.
-/
import Derived.Test.YtjpahepnihbogaaChecked
import GoSem.Claim
import GoSem.ClaimJoined
import GoSem.ClaimMapViews
import Derived.JoinedTies
import Derived.KernelRfl
namespace Go.Proofs.Ytjpahepnihbogaa
/- THE CELL 'sum', in the pinned program and in every row, IS THE sha256 OF THE DUMP (.gsa) THAT YtjpahepnihbogaaProg.lean LOADS. Nothing in Lean hashes anything: it is a label: what it is worth is what the hold of that sum in a sandbox is worth. -/
noncomputable def Try.pinned : Pinned := { name := "ytjpahepnihbogaa", sum := "aa40615e34d5c159394eead2f2163951cb30a24d8abbdab7f97d58fd34ced4e8", checked := Try.checked }
namespace Rows
def none {H : Type} : Left H := { results := [], args := [] }

/-- 'overfalllaw05.SlabFresh': WHATEVER THE INPUT: true; the input reads as it did. -/
def slabFreshSpec : ChangeSpec := { name := "slabFresh", fn := fun _ => fun
  | [d1, d2] => { results := [.lit (.bool true)], args := [d1, d2] }
  | _ => none }
def slabFreshRow : OpenClaim := { program := "ytjpahepnihbogaa", sum := "aa40615e34d5c159394eead2f2163951cb30a24d8abbdab7f97d58fd34ced4e8", func := "overfall/overfalllaw05.SlabFresh", spec := "slabFresh", apart := false }
def SlabFreshSaid : Prop := slabFreshRow.holds Try.pinned (OpenSpec.ofChange slabFreshSpec)

/-- ITS FALSE NEIGHBOUR: 'it returns false'. Refute it at one input. -/
def slabFreshWrong : ChangeSpec := { name := "slabFresh", fn := fun _ => fun
  | [d1, d2] => { results := [.lit (.bool false)], args := [d1, d2] }
  | _ => none }
def SlabFreshWrongFalsely : Prop := slabFreshRow.holds Try.pinned (OpenSpec.ofChange slabFreshWrong)

/-- 'overfalllaw05.SlabHolds': WHATEVER THE INPUT: true; the input reads as it did. -/
def slabHoldsSpec : ChangeSpec := { name := "slabHolds", fn := fun _ => fun
  | [d1, d2] => { results := [.lit (.bool true)], args := [d1, d2] }
  | _ => none }
def slabHoldsRow : OpenClaim := { program := "ytjpahepnihbogaa", sum := "aa40615e34d5c159394eead2f2163951cb30a24d8abbdab7f97d58fd34ced4e8", func := "overfall/overfalllaw05.SlabHolds", spec := "slabHolds", apart := false }
def SlabHoldsSaid : Prop := slabHoldsRow.holds Try.pinned (OpenSpec.ofChange slabHoldsSpec)

/-- ITS FALSE NEIGHBOUR: 'it returns false'. Refute it at one input. -/
def slabHoldsWrong : ChangeSpec := { name := "slabHolds", fn := fun _ => fun
  | [d1, d2] => { results := [.lit (.bool false)], args := [d1, d2] }
  | _ => none }
def SlabHoldsWrongFalsely : Prop := slabHoldsRow.holds Try.pinned (OpenSpec.ofChange slabHoldsWrong)

/-- 'overfalllaw05.SlabPlays': WHATEVER THE INPUT: true; the input reads as it did. -/
def slabPlaysSpec : ChangeSpec := { name := "slabPlays", fn := fun _ => fun
  | [d1, d2] => { results := [.lit (.bool true)], args := [d1, d2] }
  | _ => none }
def slabPlaysRow : OpenClaim := { program := "ytjpahepnihbogaa", sum := "aa40615e34d5c159394eead2f2163951cb30a24d8abbdab7f97d58fd34ced4e8", func := "overfall/overfalllaw05.SlabPlays", spec := "slabPlays", apart := false }
def SlabPlaysSaid : Prop := slabPlaysRow.holds Try.pinned (OpenSpec.ofChange slabPlaysSpec)

/-- ITS FALSE NEIGHBOUR: 'it returns false'. Refute it at one input. -/
def slabPlaysWrong : ChangeSpec := { name := "slabPlays", fn := fun _ => fun
  | [d1, d2] => { results := [.lit (.bool false)], args := [d1, d2] }
  | _ => none }
def SlabPlaysWrongFalsely : Prop := slabPlaysRow.holds Try.pinned (OpenSpec.ofChange slabPlaysWrong)

/-- 'overfalllaw05.SlabNil': WHATEVER THE INPUT: true; the input reads as it did. -/
def slabNilSpec : ChangeSpec := { name := "slabNil", fn := fun _ => fun
  | [d1, d2, d3] => { results := [.lit (.bool true)], args := [d1, d2, d3] }
  | _ => none }
def slabNilRow : OpenClaim := { program := "ytjpahepnihbogaa", sum := "aa40615e34d5c159394eead2f2163951cb30a24d8abbdab7f97d58fd34ced4e8", func := "overfall/overfalllaw05.SlabNil", spec := "slabNil", apart := false }
def SlabNilSaid : Prop := slabNilRow.holds Try.pinned (OpenSpec.ofChange slabNilSpec)

/-- ITS FALSE NEIGHBOUR: 'it returns false'. Refute it at one input. -/
def slabNilWrong : ChangeSpec := { name := "slabNil", fn := fun _ => fun
  | [d1, d2, d3] => { results := [.lit (.bool false)], args := [d1, d2, d3] }
  | _ => none }
def SlabNilWrongFalsely : Prop := slabNilRow.holds Try.pinned (OpenSpec.ofChange slabNilWrong)

/- THE SECOND FORM. 'bulk': how many values and letters a reading holds, each counted each time it is reached (what is shared counts as often as it is met; a slice's spare places count too). A statement '..UptoSaid' is the law's where the arguments, and the package variables that the reading takes, are together of bulk at most 1048576: NARROWER than '..Said'. Prove '..Said' where nothing that the law and all that it calls make is longer than what came in: it says more and counts as full. Else prove '..UptoSaid'. A law counts once. -/
mutual
def uptoBulk {H : Type} : DataW H → Nat
  | .lit (.string bytes) => bytes.length + 1
  | .lit _ => 1
  | .nil => 1
  | .ptr d => uptoBulk d + 1
  | .slice elems spare => uptoBulkAll elems + uptoBulkAll spare + 1
  | .agg parts => uptoBulkAll parts + 1
  | .iface _ d => uptoBulk d + 1
  | .map entries => uptoBulkEntries entries + 1
  | .held _ => 1
def uptoBulkAll {H : Type} : List (DataW H) → Nat
  | [] => 0
  | d :: r => uptoBulk d + uptoBulkAll r
def uptoBulkEntries {H : Type} : List (Lit × DataW H) → Nat
  | [] => 0
  | x :: r => uptoBulkEntry x + uptoBulkEntries r
def uptoBulkEntry {H : Type} : Lit × DataW H → Nat
  | (.string bytes, d) => bytes.length + uptoBulk d + 1
  | (_, d) => uptoBulk d + 1
 end
def uptoSmall : (H : Type) → List (DataW H) → Bool := fun _ ds => decide (uptoBulkAll ds ≤ 1048576)
def OpenSpec.upto (s : _root_.Go.ChangeSpec) : _root_.Go.OpenSpec := { _root_.Go.OpenSpec.ofChange s with cond := some uptoSmall }

/-- 'overfalllaw05.SlabFresh', WHERE WHAT IT READS IS OF BULK AT MOST 1048576: true; the input reads as it did. -/
def slabFreshUptoRow : OpenClaim := { program := "ytjpahepnihbogaa", sum := "aa40615e34d5c159394eead2f2163951cb30a24d8abbdab7f97d58fd34ced4e8", func := "overfall/overfalllaw05.SlabFresh", spec := "slabFresh", apart := false, narrowed := true }
def SlabFreshUptoSaid : Prop := slabFreshUptoRow.holds Try.pinned (OpenSpec.upto slabFreshSpec)

/-- 'overfalllaw05.SlabHolds', WHERE WHAT IT READS IS OF BULK AT MOST 1048576: true; the input reads as it did. -/
def slabHoldsUptoRow : OpenClaim := { program := "ytjpahepnihbogaa", sum := "aa40615e34d5c159394eead2f2163951cb30a24d8abbdab7f97d58fd34ced4e8", func := "overfall/overfalllaw05.SlabHolds", spec := "slabHolds", apart := false, narrowed := true }
def SlabHoldsUptoSaid : Prop := slabHoldsUptoRow.holds Try.pinned (OpenSpec.upto slabHoldsSpec)

/-- 'overfalllaw05.SlabPlays', WHERE WHAT IT READS IS OF BULK AT MOST 1048576: true; the input reads as it did. -/
def slabPlaysUptoRow : OpenClaim := { program := "ytjpahepnihbogaa", sum := "aa40615e34d5c159394eead2f2163951cb30a24d8abbdab7f97d58fd34ced4e8", func := "overfall/overfalllaw05.SlabPlays", spec := "slabPlays", apart := false, narrowed := true }
def SlabPlaysUptoSaid : Prop := slabPlaysUptoRow.holds Try.pinned (OpenSpec.upto slabPlaysSpec)

/-- 'overfalllaw05.SlabNil', WHERE WHAT IT READS IS OF BULK AT MOST 1048576: true; the input reads as it did. -/
def slabNilUptoRow : OpenClaim := { program := "ytjpahepnihbogaa", sum := "aa40615e34d5c159394eead2f2163951cb30a24d8abbdab7f97d58fd34ced4e8", func := "overfall/overfalllaw05.SlabNil", spec := "slabNil", apart := false, narrowed := true }
def SlabNilUptoSaid : Prop := slabNilUptoRow.holds Try.pinned (OpenSpec.upto slabNilSpec)

end Rows
end Go.Proofs.Ytjpahepnihbogaa
