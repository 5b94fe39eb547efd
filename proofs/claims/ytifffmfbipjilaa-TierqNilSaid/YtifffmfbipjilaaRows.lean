/-
  No cell of these rows narrows 'for every input' (looked for: loops, veiled, ifaces, maps, wideKeys, modest, calm, conditions, laid).
  DERIVED. THE GIVEN ROWS OF THIS SEAT. 5 by the template 'for every input the law returns true; each argument reads behind the call as it read before'; 0 by the template 'total and deterministic' (their statements: YtifffmfbipjilaaTotals.lean).
  GIVEN WITH THE SEED: the statements are not yours to turn. If you find one false, say at which input.
  Laid BY PROGRAM, IN A SANDBOX (cutbox-rows.mjs): the forced cells as the released guide's own fill.sh prints them over the translation b3b350e916f7120c… (all of the seat's roots in one cut). By AI agents, Wed Nov 11 2026. No macro, syntax, notation, axiom, sorry.
-/
import Derived.Test.YtifffmfbipjilaaChecked
import GoSem.Claim
import GoSem.ClaimJoined
import GoSem.ClaimMapViews
import Derived.JoinedTies
import Derived.KernelRfl
namespace Go.Proofs.Ytifffmfbipjilaa
/- THE CELL 'sum', in the pinned program and in every row, IS THE sha256 OF THE DUMP (.gsa) THAT YtifffmfbipjilaaProg.lean LOADS. Nothing in Lean hashes anything: it is a label: what it is worth is what the hold of that sum in a sandbox is worth. -/
noncomputable def Try.pinned : Pinned := { name := "ytifffmfbipjilaa", sum := "b3b350e916f7120c627ce0491d3f952ca1e1cf81d614fe7576e2889a782f26ea", checked := Try.checked }
namespace Rows
def none {H : Type} : Left H := { results := [], args := [] }

/-- 'overfalllaw09.TierqTiers': WHATEVER THE INPUT: true; the input reads as it did. -/
def tierqTiersSpec : ChangeSpec := { name := "tierqTiers", fn := fun _ => fun
  | [d1, d2] => { results := [.lit (.bool true)], args := [d1, d2] }
  | _ => none }
def tierqTiersRow : OpenClaim := { program := "ytifffmfbipjilaa", sum := "b3b350e916f7120c627ce0491d3f952ca1e1cf81d614fe7576e2889a782f26ea", func := "overfall/overfalllaw09.TierqTiers", spec := "tierqTiers", apart := false }
def TierqTiersSaid : Prop := tierqTiersRow.holds Try.pinned (OpenSpec.ofChange tierqTiersSpec)

/-- ITS FALSE NEIGHBOUR: 'it returns false'. Refute it at one input. -/
def tierqTiersWrong : ChangeSpec := { name := "tierqTiers", fn := fun _ => fun
  | [d1, d2] => { results := [.lit (.bool false)], args := [d1, d2] }
  | _ => none }
def TierqTiersWrongFalsely : Prop := tierqTiersRow.holds Try.pinned (OpenSpec.ofChange tierqTiersWrong)

/-- 'overfalllaw09.TierqBounds': WHATEVER THE INPUT: true; the input reads as it did. -/
def tierqBoundsSpec : ChangeSpec := { name := "tierqBounds", fn := fun _ => fun
  | [d1, d2] => { results := [.lit (.bool true)], args := [d1, d2] }
  | _ => none }
def tierqBoundsRow : OpenClaim := { program := "ytifffmfbipjilaa", sum := "b3b350e916f7120c627ce0491d3f952ca1e1cf81d614fe7576e2889a782f26ea", func := "overfall/overfalllaw09.TierqBounds", spec := "tierqBounds", unfollowed := true, recurses := true, apart := false }
def TierqBoundsSaid : Prop := tierqBoundsRow.holds Try.pinned (OpenSpec.ofChange tierqBoundsSpec)

/-- ITS FALSE NEIGHBOUR: 'it returns false'. Refute it at one input. -/
def tierqBoundsWrong : ChangeSpec := { name := "tierqBounds", fn := fun _ => fun
  | [d1, d2] => { results := [.lit (.bool false)], args := [d1, d2] }
  | _ => none }
def TierqBoundsWrongFalsely : Prop := tierqBoundsRow.holds Try.pinned (OpenSpec.ofChange tierqBoundsWrong)

/-- 'overfalllaw09.TierqDues': WHATEVER THE INPUT: true; the input reads as it did. -/
def tierqDuesSpec : ChangeSpec := { name := "tierqDues", fn := fun _ => fun
  | [d1, d2] => { results := [.lit (.bool true)], args := [d1, d2] }
  | _ => none }
def tierqDuesRow : OpenClaim := { program := "ytifffmfbipjilaa", sum := "b3b350e916f7120c627ce0491d3f952ca1e1cf81d614fe7576e2889a782f26ea", func := "overfall/overfalllaw09.TierqDues", spec := "tierqDues", unfollowed := true, recurses := true, apart := false }
def TierqDuesSaid : Prop := tierqDuesRow.holds Try.pinned (OpenSpec.ofChange tierqDuesSpec)

/-- ITS FALSE NEIGHBOUR: 'it returns false'. Refute it at one input. -/
def tierqDuesWrong : ChangeSpec := { name := "tierqDues", fn := fun _ => fun
  | [d1, d2] => { results := [.lit (.bool false)], args := [d1, d2] }
  | _ => none }
def TierqDuesWrongFalsely : Prop := tierqDuesRow.holds Try.pinned (OpenSpec.ofChange tierqDuesWrong)

/-- 'overfalllaw09.TierqPlays': WHATEVER THE INPUT: true; the input reads as it did. -/
def tierqPlaysSpec : ChangeSpec := { name := "tierqPlays", fn := fun _ => fun
  | [d1, d2, d3] => { results := [.lit (.bool true)], args := [d1, d2, d3] }
  | _ => none }
def tierqPlaysRow : OpenClaim := { program := "ytifffmfbipjilaa", sum := "b3b350e916f7120c627ce0491d3f952ca1e1cf81d614fe7576e2889a782f26ea", func := "overfall/overfalllaw09.TierqPlays", spec := "tierqPlays", unfollowed := true, recurses := true, apart := false }
def TierqPlaysSaid : Prop := tierqPlaysRow.holds Try.pinned (OpenSpec.ofChange tierqPlaysSpec)

/-- ITS FALSE NEIGHBOUR: 'it returns false'. Refute it at one input. -/
def tierqPlaysWrong : ChangeSpec := { name := "tierqPlays", fn := fun _ => fun
  | [d1, d2, d3] => { results := [.lit (.bool false)], args := [d1, d2, d3] }
  | _ => none }
def TierqPlaysWrongFalsely : Prop := tierqPlaysRow.holds Try.pinned (OpenSpec.ofChange tierqPlaysWrong)

/-- 'overfalllaw09.TierqNil': WHATEVER THE INPUT: true; the input reads as it did. -/
def tierqNilSpec : ChangeSpec := { name := "tierqNil", fn := fun _ => fun
  | [d1, d2, d3, d4, d5] => { results := [.lit (.bool true)], args := [d1, d2, d3, d4, d5] }
  | _ => none }
def tierqNilRow : OpenClaim := { program := "ytifffmfbipjilaa", sum := "b3b350e916f7120c627ce0491d3f952ca1e1cf81d614fe7576e2889a782f26ea", func := "overfall/overfalllaw09.TierqNil", spec := "tierqNil", unfollowed := true, recurses := true, apart := false }
def TierqNilSaid : Prop := tierqNilRow.holds Try.pinned (OpenSpec.ofChange tierqNilSpec)

/-- ITS FALSE NEIGHBOUR: 'it returns false'. Refute it at one input. -/
def tierqNilWrong : ChangeSpec := { name := "tierqNil", fn := fun _ => fun
  | [d1, d2, d3, d4, d5] => { results := [.lit (.bool false)], args := [d1, d2, d3, d4, d5] }
  | _ => none }
def TierqNilWrongFalsely : Prop := tierqNilRow.holds Try.pinned (OpenSpec.ofChange tierqNilWrong)

/- THE SECOND FORM. 'bulk': how many values and letters a reading holds, each counted each time it is reached (what is shared counts as often as it is met; a slice's spare places count too). A statement '..UptoSaid' is the law's where the arguments, and the package variables that the reading takes, are together of bulk at most 1048576: NARROWER than '..Said'. Prove '..Said' where nothing that the law and all that it calls make is longer than what came in: it says more and counts as full. Else prove '..UptoSaid'. A law counts once. -/
mutual
def uptoBulk {H : Type} : DataW H → Nat
  | .lit (.string bytes) => bytes.length + 1
  | .lit _ => 1
  | .nil => 1
  | .ptr d => uptoBulk d + 1
  | .slice elems spare => uptoBulkAll elems + uptoBulkAll spare + 1
  | .agg parts => uptoBulkAll parts + 1
  | .iface _ d => uptoBulk d + 1
  | .map entries => uptoBulkEntries entries + 1
  | .held _ => 1
def uptoBulkAll {H : Type} : List (DataW H) → Nat
  | [] => 0
  | d :: r => uptoBulk d + uptoBulkAll r
def uptoBulkEntries {H : Type} : List (Lit × DataW H) → Nat
  | [] => 0
  | x :: r => uptoBulkEntry x + uptoBulkEntries r
def uptoBulkEntry {H : Type} : Lit × DataW H → Nat
  | (.string bytes, d) => bytes.length + uptoBulk d + 1
  | (_, d) => uptoBulk d + 1
 end
def uptoSmall : (H : Type) → List (DataW H) → Bool := fun _ ds => decide (uptoBulkAll ds ≤ 1048576)
def OpenSpec.upto (s : _root_.Go.ChangeSpec) : _root_.Go.OpenSpec := { _root_.Go.OpenSpec.ofChange s with cond := some uptoSmall }

/-- 'overfalllaw09.TierqTiers', WHERE WHAT IT READS IS OF BULK AT MOST 1048576: true; the input reads as it did. -/
def tierqTiersUptoRow : OpenClaim := { program := "ytifffmfbipjilaa", sum := "b3b350e916f7120c627ce0491d3f952ca1e1cf81d614fe7576e2889a782f26ea", func := "overfall/overfalllaw09.TierqTiers", spec := "tierqTiers", apart := false, narrowed := true }
def TierqTiersUptoSaid : Prop := tierqTiersUptoRow.holds Try.pinned (OpenSpec.upto tierqTiersSpec)

/-- 'overfalllaw09.TierqBounds', WHERE WHAT IT READS IS OF BULK AT MOST 1048576: true; the input reads as it did. -/
def tierqBoundsUptoRow : OpenClaim := { program := "ytifffmfbipjilaa", sum := "b3b350e916f7120c627ce0491d3f952ca1e1cf81d614fe7576e2889a782f26ea", func := "overfall/overfalllaw09.TierqBounds", spec := "tierqBounds", unfollowed := true, recurses := true, apart := false, narrowed := true }
def TierqBoundsUptoSaid : Prop := tierqBoundsUptoRow.holds Try.pinned (OpenSpec.upto tierqBoundsSpec)

/-- 'overfalllaw09.TierqDues', WHERE WHAT IT READS IS OF BULK AT MOST 1048576: true; the input reads as it did. -/
def tierqDuesUptoRow : OpenClaim := { program := "ytifffmfbipjilaa", sum := "b3b350e916f7120c627ce0491d3f952ca1e1cf81d614fe7576e2889a782f26ea", func := "overfall/overfalllaw09.TierqDues", spec := "tierqDues", unfollowed := true, recurses := true, apart := false, narrowed := true }
def TierqDuesUptoSaid : Prop := tierqDuesUptoRow.holds Try.pinned (OpenSpec.upto tierqDuesSpec)

/-- 'overfalllaw09.TierqPlays', WHERE WHAT IT READS IS OF BULK AT MOST 1048576: true; the input reads as it did. -/
def tierqPlaysUptoRow : OpenClaim := { program := "ytifffmfbipjilaa", sum := "b3b350e916f7120c627ce0491d3f952ca1e1cf81d614fe7576e2889a782f26ea", func := "overfall/overfalllaw09.TierqPlays", spec := "tierqPlays", unfollowed := true, recurses := true, apart := false, narrowed := true }
def TierqPlaysUptoSaid : Prop := tierqPlaysUptoRow.holds Try.pinned (OpenSpec.upto tierqPlaysSpec)

/-- 'overfalllaw09.TierqNil', WHERE WHAT IT READS IS OF BULK AT MOST 1048576: true; the input reads as it did. -/
def tierqNilUptoRow : OpenClaim := { program := "ytifffmfbipjilaa", sum := "b3b350e916f7120c627ce0491d3f952ca1e1cf81d614fe7576e2889a782f26ea", func := "overfall/overfalllaw09.TierqNil", spec := "tierqNil", unfollowed := true, recurses := true, apart := false, narrowed := true }
def TierqNilUptoSaid : Prop := tierqNilUptoRow.holds Try.pinned (OpenSpec.upto tierqNilSpec)

end Rows
end Go.Proofs.Ytifffmfbipjilaa
