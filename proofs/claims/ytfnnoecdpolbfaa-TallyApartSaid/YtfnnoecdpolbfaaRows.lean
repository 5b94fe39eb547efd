/-
  No cell of these rows narrows 'for every input' (looked for: loops, veiled, ifaces, maps, wideKeys, modest, calm, conditions, laid).
  DERIVED. THE GIVEN ROWS OF THIS SEAT. 4 by the template 'for every input the law returns true; each argument reads behind the call as it read before'; 0 by the template 'total and deterministic' (their statements: YtfnnoecdpolbfaaTotals.lean).
  GIVEN WITH THE SEED: the statements are not yours to turn. If you find one false, say at which input.
  Laid BY PROGRAM, IN A SANDBOX (cutbox-rows.mjs): the forced cells as the released guide's own fill.sh prints them over the translation 47bc5ea367e06d53… (all of the seat's roots in one cut). By AI agents, Wed Nov 11 2026. No macro, syntax, notation, axiom, sorry.
-/
import Derived.Test.YtfnnoecdpolbfaaChecked
import GoSem.Claim
import GoSem.ClaimJoined
import GoSem.ClaimMapViews
import Derived.JoinedTies
import Derived.KernelRfl
namespace Go.Proofs.Ytfnnoecdpolbfaa
/- THE CELL 'sum', in the pinned program and in every row, IS THE sha256 OF THE DUMP (.gsa) THAT YtfnnoecdpolbfaaProg.lean LOADS. Nothing in Lean hashes anything: it is a label: what it is worth is what the hold of that sum in a sandbox is worth. -/
noncomputable def Try.pinned : Pinned := { name := "ytfnnoecdpolbfaa", sum := "47bc5ea367e06d531230893ec534711c8ff028ba4b95446466fbf870cfd5e952", checked := Try.checked }
namespace Rows
def none {H : Type} : Left H := { results := [], args := [] }

/-- 'overfalllaw15.TallyAdds': WHATEVER THE INPUT: true; the input reads as it did. -/
def tallyAddsSpec : ChangeSpec := { name := "tallyAdds", fn := fun _ => fun
  | [d] => { results := [.lit (.bool true)], args := [d] }
  | _ => none }
def tallyAddsRow : OpenClaim := { program := "ytfnnoecdpolbfaa", sum := "47bc5ea367e06d531230893ec534711c8ff028ba4b95446466fbf870cfd5e952", func := "overfall/overfalllaw15.TallyAdds", spec := "tallyAdds", unfollowed := true, recurses := true, apart := false }
def TallyAddsSaid : Prop := tallyAddsRow.holds Try.pinned (OpenSpec.ofChange tallyAddsSpec)

/-- ITS FALSE NEIGHBOUR: 'it returns false'. Refute it at one input. -/
def tallyAddsWrong : ChangeSpec := { name := "tallyAdds", fn := fun _ => fun
  | [d] => { results := [.lit (.bool false)], args := [d] }
  | _ => none }
def TallyAddsWrongFalsely : Prop := tallyAddsRow.holds Try.pinned (OpenSpec.ofChange tallyAddsWrong)

/-- 'overfalllaw15.TallyParts': WHATEVER THE INPUT: true; the input reads as it did. -/
def tallyPartsSpec : ChangeSpec := { name := "tallyParts", fn := fun _ => fun
  | [d1, d2, d3, d4] => { results := [.lit (.bool true)], args := [d1, d2, d3, d4] }
  | _ => none }
def tallyPartsRow : OpenClaim := { program := "ytfnnoecdpolbfaa", sum := "47bc5ea367e06d531230893ec534711c8ff028ba4b95446466fbf870cfd5e952", func := "overfall/overfalllaw15.TallyParts", spec := "tallyParts", unfollowed := true, recurses := true, apart := false }
def TallyPartsSaid : Prop := tallyPartsRow.holds Try.pinned (OpenSpec.ofChange tallyPartsSpec)

/-- ITS FALSE NEIGHBOUR: 'it returns false'. Refute it at one input. -/
def tallyPartsWrong : ChangeSpec := { name := "tallyParts", fn := fun _ => fun
  | [d1, d2, d3, d4] => { results := [.lit (.bool false)], args := [d1, d2, d3, d4] }
  | _ => none }
def TallyPartsWrongFalsely : Prop := tallyPartsRow.holds Try.pinned (OpenSpec.ofChange tallyPartsWrong)

/-- 'overfalllaw15.TallyApart': WHATEVER THE INPUT: true; the input reads as it did. -/
def tallyApartSpec : ChangeSpec := { name := "tallyApart", fn := fun _ => fun
  | [d1, d2, d3] => { results := [.lit (.bool true)], args := [d1, d2, d3] }
  | _ => none }
def tallyApartRow : OpenClaim := { program := "ytfnnoecdpolbfaa", sum := "47bc5ea367e06d531230893ec534711c8ff028ba4b95446466fbf870cfd5e952", func := "overfall/overfalllaw15.TallyApart", spec := "tallyApart", unfollowed := true, recurses := true, apart := false }
def TallyApartSaid : Prop := tallyApartRow.holds Try.pinned (OpenSpec.ofChange tallyApartSpec)

/-- ITS FALSE NEIGHBOUR: 'it returns false'. Refute it at one input. -/
def tallyApartWrong : ChangeSpec := { name := "tallyApart", fn := fun _ => fun
  | [d1, d2, d3] => { results := [.lit (.bool false)], args := [d1, d2, d3] }
  | _ => none }
def TallyApartWrongFalsely : Prop := tallyApartRow.holds Try.pinned (OpenSpec.ofChange tallyApartWrong)

/-- 'overfalllaw15.TallyTells': WHATEVER THE INPUT: true; the input reads as it did. -/
def tallyTellsSpec : ChangeSpec := { name := "tallyTells", fn := fun _ => fun
  | [d1, d2, d3, d4] => { results := [.lit (.bool true)], args := [d1, d2, d3, d4] }
  | _ => none }
def tallyTellsRow : OpenClaim := { program := "ytfnnoecdpolbfaa", sum := "47bc5ea367e06d531230893ec534711c8ff028ba4b95446466fbf870cfd5e952", func := "overfall/overfalllaw15.TallyTells", spec := "tallyTells", unfollowed := true, recurses := true, apart := false }
def TallyTellsSaid : Prop := tallyTellsRow.holds Try.pinned (OpenSpec.ofChange tallyTellsSpec)

/-- ITS FALSE NEIGHBOUR: 'it returns false'. Refute it at one input. -/
def tallyTellsWrong : ChangeSpec := { name := "tallyTells", fn := fun _ => fun
  | [d1, d2, d3, d4] => { results := [.lit (.bool false)], args := [d1, d2, d3, d4] }
  | _ => none }
def TallyTellsWrongFalsely : Prop := tallyTellsRow.holds Try.pinned (OpenSpec.ofChange tallyTellsWrong)

/- THE SECOND FORM. 'bulk': how many values and letters a reading holds, each counted each time it is reached (what is shared counts as often as it is met; a slice's spare places count too). A statement '..UptoSaid' is the law's where the arguments, and the package variables that the reading takes, are together of bulk at most 1048576: NARROWER than '..Said'. Prove '..Said' where nothing that the law and all that it calls make is longer than what came in: it says more and counts as full. Else prove '..UptoSaid'. A law counts once. -/
mutual
def uptoBulk {H : Type} : DataW H → Nat
  | .lit (.string bytes) => bytes.length + 1
  | .lit _ => 1
  | .nil => 1
  | .ptr d => uptoBulk d + 1
  | .slice elems spare => uptoBulkAll elems + uptoBulkAll spare + 1
  | .agg parts => uptoBulkAll parts + 1
  | .iface _ d => uptoBulk d + 1
  | .map entries => uptoBulkEntries entries + 1
  | .held _ => 1
def uptoBulkAll {H : Type} : List (DataW H) → Nat
  | [] => 0
  | d :: r => uptoBulk d + uptoBulkAll r
def uptoBulkEntries {H : Type} : List (Lit × DataW H) → Nat
  | [] => 0
  | x :: r => uptoBulkEntry x + uptoBulkEntries r
def uptoBulkEntry {H : Type} : Lit × DataW H → Nat
  | (.string bytes, d) => bytes.length + uptoBulk d + 1
  | (_, d) => uptoBulk d + 1
 end
def uptoSmall : (H : Type) → List (DataW H) → Bool := fun _ ds => decide (uptoBulkAll ds ≤ 1048576)
def OpenSpec.upto (s : _root_.Go.ChangeSpec) : _root_.Go.OpenSpec := { _root_.Go.OpenSpec.ofChange s with cond := some uptoSmall }

/-- 'overfalllaw15.TallyAdds', WHERE WHAT IT READS IS OF BULK AT MOST 1048576: true; the input reads as it did. -/
def tallyAddsUptoRow : OpenClaim := { program := "ytfnnoecdpolbfaa", sum := "47bc5ea367e06d531230893ec534711c8ff028ba4b95446466fbf870cfd5e952", func := "overfall/overfalllaw15.TallyAdds", spec := "tallyAdds", unfollowed := true, recurses := true, apart := false, narrowed := true }
def TallyAddsUptoSaid : Prop := tallyAddsUptoRow.holds Try.pinned (OpenSpec.upto tallyAddsSpec)

/-- 'overfalllaw15.TallyParts', WHERE WHAT IT READS IS OF BULK AT MOST 1048576: true; the input reads as it did. -/
def tallyPartsUptoRow : OpenClaim := { program := "ytfnnoecdpolbfaa", sum := "47bc5ea367e06d531230893ec534711c8ff028ba4b95446466fbf870cfd5e952", func := "overfall/overfalllaw15.TallyParts", spec := "tallyParts", unfollowed := true, recurses := true, apart := false, narrowed := true }
def TallyPartsUptoSaid : Prop := tallyPartsUptoRow.holds Try.pinned (OpenSpec.upto tallyPartsSpec)

/-- 'overfalllaw15.TallyApart', WHERE WHAT IT READS IS OF BULK AT MOST 1048576: true; the input reads as it did. -/
def tallyApartUptoRow : OpenClaim := { program := "ytfnnoecdpolbfaa", sum := "47bc5ea367e06d531230893ec534711c8ff028ba4b95446466fbf870cfd5e952", func := "overfall/overfalllaw15.TallyApart", spec := "tallyApart", unfollowed := true, recurses := true, apart := false, narrowed := true }
def TallyApartUptoSaid : Prop := tallyApartUptoRow.holds Try.pinned (OpenSpec.upto tallyApartSpec)

/-- 'overfalllaw15.TallyTells', WHERE WHAT IT READS IS OF BULK AT MOST 1048576: true; the input reads as it did. -/
def tallyTellsUptoRow : OpenClaim := { program := "ytfnnoecdpolbfaa", sum := "47bc5ea367e06d531230893ec534711c8ff028ba4b95446466fbf870cfd5e952", func := "overfall/overfalllaw15.TallyTells", spec := "tallyTells", unfollowed := true, recurses := true, apart := false, narrowed := true }
def TallyTellsUptoSaid : Prop := tallyTellsUptoRow.holds Try.pinned (OpenSpec.upto tallyTellsSpec)

end Rows
end Go.Proofs.Ytfnnoecdpolbfaa
