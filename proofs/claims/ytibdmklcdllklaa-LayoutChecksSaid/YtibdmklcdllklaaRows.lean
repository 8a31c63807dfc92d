/-
  No cell of these rows narrows 'for every input' (looked for: loops, veiled, ifaces, maps, wideKeys, modest, calm, conditions, laid).
  DERIVED. THE GIVEN ROWS OF THIS SEAT. 4 by the template 'for every input the law returns true; each argument reads behind the call as it read before'; 0 by the template 'total and deterministic' (their statements: YtibdmklcdllklaaTotals.lean).
  GIVEN WITH THE SEED: the statements are not yours to turn. If you find one false, say at which input.
  Laid BY PROGRAM, IN A SANDBOX (cutbox-rows.mjs): the forced cells as the released guide's own fill.sh prints them over the translation d6be8eb6abe3e95f… (all of the seat's roots in one cut). By AI agents, Wed Nov 11 2026. No macro, syntax, notation, axiom, sorry.
-/
import Derived.Test.YtibdmklcdllklaaChecked
import GoSem.Claim
import GoSem.ClaimJoined
import GoSem.ClaimMapViews
import Derived.JoinedTies
import Derived.KernelRfl
namespace Go.Proofs.Ytibdmklcdllklaa
/- THE CELL 'sum', in the pinned program and in every row, IS THE sha256 OF THE DUMP (.gsa) THAT YtibdmklcdllklaaProg.lean LOADS. Nothing in Lean hashes anything: it is a label: what it is worth is what the hold of that sum in a sandbox is worth. -/
noncomputable def Try.pinned : Pinned := { name := "ytibdmklcdllklaa", sum := "d6be8eb6abe3e95f31b77132d7f736104fcda84c33b48531892c30e8b3144300", checked := Try.checked }
namespace Rows
def none {H : Type} : Left H := { results := [], args := [] }

/-- 'graftlaw23.LayoutAllows': WHATEVER THE INPUT: true; the input reads as it did. -/
def layoutAllowsSpec : ChangeSpec := { name := "layoutAllows", fn := fun _ => fun
  | [d1, d2] => { results := [.lit (.bool true)], args := [d1, d2] }
  | _ => none }
def layoutAllowsRow : OpenClaim := { program := "ytibdmklcdllklaa", sum := "d6be8eb6abe3e95f31b77132d7f736104fcda84c33b48531892c30e8b3144300", func := "graft/graftlaw23.LayoutAllows", spec := "layoutAllows", unfollowed := true, recurses := true, apart := false }
def LayoutAllowsSaid : Prop := layoutAllowsRow.holds Try.pinned (OpenSpec.ofChange layoutAllowsSpec)

/-- ITS FALSE NEIGHBOUR: 'it returns false'. Refute it at one input. -/
def layoutAllowsWrong : ChangeSpec := { name := "layoutAllows", fn := fun _ => fun
  | [d1, d2] => { results := [.lit (.bool false)], args := [d1, d2] }
  | _ => none }
def LayoutAllowsWrongFalsely : Prop := layoutAllowsRow.holds Try.pinned (OpenSpec.ofChange layoutAllowsWrong)

/-- 'graftlaw23.LayoutPlaces': WHATEVER THE INPUT: true; the input reads as it did. -/
def layoutPlacesSpec : ChangeSpec := { name := "layoutPlaces", fn := fun _ => fun
  | [d] => { results := [.lit (.bool true)], args := [d] }
  | _ => none }
def layoutPlacesRow : OpenClaim := { program := "ytibdmklcdllklaa", sum := "d6be8eb6abe3e95f31b77132d7f736104fcda84c33b48531892c30e8b3144300", func := "graft/graftlaw23.LayoutPlaces", spec := "layoutPlaces", unfollowed := true, recurses := true, apart := false }
def LayoutPlacesSaid : Prop := layoutPlacesRow.holds Try.pinned (OpenSpec.ofChange layoutPlacesSpec)

/-- ITS FALSE NEIGHBOUR: 'it returns false'. Refute it at one input. -/
def layoutPlacesWrong : ChangeSpec := { name := "layoutPlaces", fn := fun _ => fun
  | [d] => { results := [.lit (.bool false)], args := [d] }
  | _ => none }
def LayoutPlacesWrongFalsely : Prop := layoutPlacesRow.holds Try.pinned (OpenSpec.ofChange layoutPlacesWrong)

/-- 'graftlaw23.LayoutPrepares': WHATEVER THE INPUT: true; the input reads as it did. -/
def layoutPreparesSpec : ChangeSpec := { name := "layoutPrepares", fn := fun _ => fun
  | [d1, d2, d3] => { results := [.lit (.bool true)], args := [d1, d2, d3] }
  | _ => none }
def layoutPreparesRow : OpenClaim := { program := "ytibdmklcdllklaa", sum := "d6be8eb6abe3e95f31b77132d7f736104fcda84c33b48531892c30e8b3144300", func := "graft/graftlaw23.LayoutPrepares", spec := "layoutPrepares", unfollowed := true, recurses := true, apart := false }
def LayoutPreparesSaid : Prop := layoutPreparesRow.holds Try.pinned (OpenSpec.ofChange layoutPreparesSpec)

/-- ITS FALSE NEIGHBOUR: 'it returns false'. Refute it at one input. -/
def layoutPreparesWrong : ChangeSpec := { name := "layoutPrepares", fn := fun _ => fun
  | [d1, d2, d3] => { results := [.lit (.bool false)], args := [d1, d2, d3] }
  | _ => none }
def LayoutPreparesWrongFalsely : Prop := layoutPreparesRow.holds Try.pinned (OpenSpec.ofChange layoutPreparesWrong)

/-- 'graftlaw23.LayoutChecks': WHATEVER THE INPUT: true; the input reads as it did. -/
def layoutChecksSpec : ChangeSpec := { name := "layoutChecks", fn := fun _ => fun
  | [d1, d2, d3] => { results := [.lit (.bool true)], args := [d1, d2, d3] }
  | _ => none }
def layoutChecksRow : OpenClaim := { program := "ytibdmklcdllklaa", sum := "d6be8eb6abe3e95f31b77132d7f736104fcda84c33b48531892c30e8b3144300", func := "graft/graftlaw23.LayoutChecks", spec := "layoutChecks", unfollowed := true, recurses := true, apart := false }
def LayoutChecksSaid : Prop := layoutChecksRow.holds Try.pinned (OpenSpec.ofChange layoutChecksSpec)

/-- ITS FALSE NEIGHBOUR: 'it returns false'. Refute it at one input. -/
def layoutChecksWrong : ChangeSpec := { name := "layoutChecks", fn := fun _ => fun
  | [d1, d2, d3] => { results := [.lit (.bool false)], args := [d1, d2, d3] }
  | _ => none }
def LayoutChecksWrongFalsely : Prop := layoutChecksRow.holds Try.pinned (OpenSpec.ofChange layoutChecksWrong)

/- THE SECOND FORM. 'bulk': how many values and letters a reading holds, each counted each time it is reached (what is shared counts as often as it is met; a slice's spare places count too). A statement '..UptoSaid' is the law's where the arguments, and the package variables that the reading takes, are together of bulk at most 1048576: NARROWER than '..Said'. Prove '..Said' where nothing that the law and all that it calls make is longer than what came in: it says more and counts as full. Else prove '..UptoSaid'. A law counts once. -/
mutual
def uptoBulk {H : Type} : DataW H → Nat
  | .lit (.string bytes) => bytes.length + 1
  | .lit _ => 1
  | .nil => 1
  | .ptr d => uptoBulk d + 1
  | .slice elems spare => uptoBulkAll elems + uptoBulkAll spare + 1
  | .agg parts => uptoBulkAll parts + 1
  | .iface _ d => uptoBulk d + 1
  | .map entries => uptoBulkEntries entries + 1
  | .held _ => 1
def uptoBulkAll {H : Type} : List (DataW H) → Nat
  | [] => 0
  | d :: r => uptoBulk d + uptoBulkAll r
def uptoBulkEntries {H : Type} : List (Lit × DataW H) → Nat
  | [] => 0
  | x :: r => uptoBulkEntry x + uptoBulkEntries r
def uptoBulkEntry {H : Type} : Lit × DataW H → Nat
  | (.string bytes, d) => bytes.length + uptoBulk d + 1
  | (_, d) => uptoBulk d + 1
 end
def uptoSmall : (H : Type) → List (DataW H) → Bool := fun _ ds => decide (uptoBulkAll ds ≤ 1048576)
def OpenSpec.upto (s : _root_.Go.ChangeSpec) : _root_.Go.OpenSpec := { _root_.Go.OpenSpec.ofChange s with cond := some uptoSmall }

/-- 'graftlaw23.LayoutAllows', WHERE WHAT IT READS IS OF BULK AT MOST 1048576: true; the input reads as it did. -/
def layoutAllowsUptoRow : OpenClaim := { program := "ytibdmklcdllklaa", sum := "d6be8eb6abe3e95f31b77132d7f736104fcda84c33b48531892c30e8b3144300", func := "graft/graftlaw23.LayoutAllows", spec := "layoutAllows", unfollowed := true, recurses := true, apart := false, narrowed := true }
def LayoutAllowsUptoSaid : Prop := layoutAllowsUptoRow.holds Try.pinned (OpenSpec.upto layoutAllowsSpec)

/-- 'graftlaw23.LayoutPlaces', WHERE WHAT IT READS IS OF BULK AT MOST 1048576: true; the input reads as it did. -/
def layoutPlacesUptoRow : OpenClaim := { program := "ytibdmklcdllklaa", sum := "d6be8eb6abe3e95f31b77132d7f736104fcda84c33b48531892c30e8b3144300", func := "graft/graftlaw23.LayoutPlaces", spec := "layoutPlaces", unfollowed := true, recurses := true, apart := false, narrowed := true }
def LayoutPlacesUptoSaid : Prop := layoutPlacesUptoRow.holds Try.pinned (OpenSpec.upto layoutPlacesSpec)

/-- 'graftlaw23.LayoutPrepares', WHERE WHAT IT READS IS OF BULK AT MOST 1048576: true; the input reads as it did. -/
def layoutPreparesUptoRow : OpenClaim := { program := "ytibdmklcdllklaa", sum := "d6be8eb6abe3e95f31b77132d7f736104fcda84c33b48531892c30e8b3144300", func := "graft/graftlaw23.LayoutPrepares", spec := "layoutPrepares", unfollowed := true, recurses := true, apart := false, narrowed := true }
def LayoutPreparesUptoSaid : Prop := layoutPreparesUptoRow.holds Try.pinned (OpenSpec.upto layoutPreparesSpec)

/-- 'graftlaw23.LayoutChecks', WHERE WHAT IT READS IS OF BULK AT MOST 1048576: true; the input reads as it did. -/
def layoutChecksUptoRow : OpenClaim := { program := "ytibdmklcdllklaa", sum := "d6be8eb6abe3e95f31b77132d7f736104fcda84c33b48531892c30e8b3144300", func := "graft/graftlaw23.LayoutChecks", spec := "layoutChecks", unfollowed := true, recurses := true, apart := false, narrowed := true }
def LayoutChecksUptoSaid : Prop := layoutChecksUptoRow.holds Try.pinned (OpenSpec.upto layoutChecksSpec)

end Rows
end Go.Proofs.Ytibdmklcdllklaa
