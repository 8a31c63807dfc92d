/-
  No cell of these rows narrows 'for every input' (looked for: loops, veiled, ifaces, maps, wideKeys, modest, calm, conditions, laid).
  DERIVED. THE GIVEN ROWS OF THIS SEAT. 3 by the template 'for every input the law returns true; each argument reads behind the call as it read before'; 0 by the template 'total and deterministic' (their statements: YtaehgpeenaomcaaGreatTotals.lean).
  GIVEN WITH THE SEED: the statements are not yours to turn. If you find one false, say at which input.
  Laid BY PROGRAM, IN A SANDBOX (cutbox-rows.mjs): the forced cells as the released guide's own fill.sh prints them over the translation a74d9e65489d4633… (all of the seat's roots in one cut). By AI agents, Wed Nov 11 2026. No macro, syntax, notation, axiom, sorry.
-/
import Derived.Test.YtaehgpeenaomcaaGreatChecked
import GoSem.Claim
import GoSem.ClaimJoined
import GoSem.ClaimMapViews
import Derived.JoinedTies
import Derived.KernelRfl
namespace Go.Proofs.YtaehgpeenaomcaaGreat
/- THE CELL 'sum', in the pinned program and in every row, IS THE sha256 OF THE DUMP (.gsa) THAT YtaehgpeenaomcaaGreatProg.lean LOADS. Nothing in Lean hashes anything: it is a label: what it is worth is what the hold of that sum in a sandbox is worth. -/
noncomputable def Tryz.pinned : Pinned := { name := "ytaehgpeenaomcaagreat", sum := "a74d9e65489d4633dcd71d8d79f640d1aa9a191adc2528a469338c891b827c5b", checked := Tryz.checked }
namespace Rows
def none {H : Type} : Left H := { results := [], args := [] }

/-- 'grafttop.TopJournal': WHATEVER THE INPUT: true; the input reads as it did. -/
def topJournalSpec : ChangeSpec := { name := "topJournal", fn := fun _ => fun
  | [d1, d2] => { results := [.lit (.bool true)], args := [d1, d2] }
  | _ => none }
def topJournalRow : OpenClaim := { program := "ytaehgpeenaomcaagreat", sum := "a74d9e65489d4633dcd71d8d79f640d1aa9a191adc2528a469338c891b827c5b", func := "graft/grafttop.TopJournal", spec := "topJournal", inPlace := ["internal/bytealg.IndexByte", "internal/bytealg.Index", "slices.overlaps[int]"], unfollowed := true, recurses := true, named := ["internal/bytealg.MaxLen"], plainKeys := false, apart := false }
def TopJournalSaid : Prop := topJournalRow.holds Tryz.pinned (OpenSpec.ofChange topJournalSpec)

/-- ITS FALSE NEIGHBOUR: 'it returns false'. Refute it at one input. -/
def topJournalWrong : ChangeSpec := { name := "topJournal", fn := fun _ => fun
  | [d1, d2] => { results := [.lit (.bool false)], args := [d1, d2] }
  | _ => none }
def TopJournalWrongFalsely : Prop := topJournalRow.holds Tryz.pinned (OpenSpec.ofChange topJournalWrong)

/-- 'grafttop.TopShapes': WHATEVER THE INPUT: true; the input reads as it did. -/
def topShapesSpec : ChangeSpec := { name := "topShapes", fn := fun _ => fun
  | [d1, d2, d3] => { results := [.lit (.bool true)], args := [d1, d2, d3] }
  | _ => none }
def topShapesRow : OpenClaim := { program := "ytaehgpeenaomcaagreat", sum := "a74d9e65489d4633dcd71d8d79f640d1aa9a191adc2528a469338c891b827c5b", func := "graft/grafttop.TopShapes", spec := "topShapes", inPlace := ["internal/bytealg.IndexByte", "internal/bytealg.Index", "slices.overlaps[int]"], unfollowed := true, recurses := true, named := ["internal/bytealg.MaxLen"], plainKeys := false, apart := false }
def TopShapesSaid : Prop := topShapesRow.holds Tryz.pinned (OpenSpec.ofChange topShapesSpec)

/-- ITS FALSE NEIGHBOUR: 'it returns false'. Refute it at one input. -/
def topShapesWrong : ChangeSpec := { name := "topShapes", fn := fun _ => fun
  | [d1, d2, d3] => { results := [.lit (.bool false)], args := [d1, d2, d3] }
  | _ => none }
def TopShapesWrongFalsely : Prop := topShapesRow.holds Tryz.pinned (OpenSpec.ofChange topShapesWrong)

/-- 'grafttop.TopBack': WHATEVER THE INPUT: true; the input reads as it did. -/
def topBackSpec : ChangeSpec := { name := "topBack", fn := fun _ => fun
  | [d1, d2] => { results := [.lit (.bool true)], args := [d1, d2] }
  | _ => none }
def topBackRow : OpenClaim := { program := "ytaehgpeenaomcaagreat", sum := "a74d9e65489d4633dcd71d8d79f640d1aa9a191adc2528a469338c891b827c5b", func := "graft/grafttop.TopBack", spec := "topBack", inPlace := ["internal/bytealg.IndexByte", "internal/bytealg.Index", "slices.overlaps[int]"], unfollowed := true, recurses := true, named := ["internal/bytealg.MaxLen"], plainKeys := false, apart := false }
def TopBackSaid : Prop := topBackRow.holds Tryz.pinned (OpenSpec.ofChange topBackSpec)

/-- ITS FALSE NEIGHBOUR: 'it returns false'. Refute it at one input. -/
def topBackWrong : ChangeSpec := { name := "topBack", fn := fun _ => fun
  | [d1, d2] => { results := [.lit (.bool false)], args := [d1, d2] }
  | _ => none }
def TopBackWrongFalsely : Prop := topBackRow.holds Tryz.pinned (OpenSpec.ofChange topBackWrong)

/- THE SECOND FORM. 'bulk': how many values and letters a reading holds, each counted each time it is reached (what is shared counts as often as it is met; a slice's spare places count too). A statement '..UptoSaid' is the law's where the arguments, and the package variables that the reading takes, are together of bulk at most 1048576: NARROWER than '..Said'. Prove '..Said' where nothing that the law and all that it calls make is longer than what came in: it says more and counts as full. Else prove '..UptoSaid'. A law counts once. -/
mutual
def uptoBulk {H : Type} : DataW H → Nat
  | .lit (.string bytes) => bytes.length + 1
  | .lit _ => 1
  | .nil => 1
  | .ptr d => uptoBulk d + 1
  | .slice elems spare => uptoBulkAll elems + uptoBulkAll spare + 1
  | .agg parts => uptoBulkAll parts + 1
  | .iface _ d => uptoBulk d + 1
  | .map entries => uptoBulkEntries entries + 1
  | .held _ => 1
def uptoBulkAll {H : Type} : List (DataW H) → Nat
  | [] => 0
  | d :: r => uptoBulk d + uptoBulkAll r
def uptoBulkEntries {H : Type} : List (Lit × DataW H) → Nat
  | [] => 0
  | x :: r => uptoBulkEntry x + uptoBulkEntries r
def uptoBulkEntry {H : Type} : Lit × DataW H → Nat
  | (.string bytes, d) => bytes.length + uptoBulk d + 1
  | (_, d) => uptoBulk d + 1
 end
def uptoSmall : (H : Type) → List (DataW H) → Bool := fun _ ds => decide (uptoBulkAll ds ≤ 1048576)
def OpenSpec.upto (s : _root_.Go.ChangeSpec) : _root_.Go.OpenSpec := { _root_.Go.OpenSpec.ofChange s with cond := some uptoSmall }

/-- 'grafttop.TopJournal', WHERE WHAT IT READS IS OF BULK AT MOST 1048576: true; the input reads as it did. -/
def topJournalUptoRow : OpenClaim := { program := "ytaehgpeenaomcaagreat", sum := "a74d9e65489d4633dcd71d8d79f640d1aa9a191adc2528a469338c891b827c5b", func := "graft/grafttop.TopJournal", spec := "topJournal", inPlace := ["internal/bytealg.IndexByte", "internal/bytealg.Index", "slices.overlaps[int]"], unfollowed := true, recurses := true, named := ["internal/bytealg.MaxLen"], plainKeys := false, apart := false, narrowed := true }
def TopJournalUptoSaid : Prop := topJournalUptoRow.holds Tryz.pinned (OpenSpec.upto topJournalSpec)

/-- 'grafttop.TopShapes', WHERE WHAT IT READS IS OF BULK AT MOST 1048576: true; the input reads as it did. -/
def topShapesUptoRow : OpenClaim := { program := "ytaehgpeenaomcaagreat", sum := "a74d9e65489d4633dcd71d8d79f640d1aa9a191adc2528a469338c891b827c5b", func := "graft/grafttop.TopShapes", spec := "topShapes", inPlace := ["internal/bytealg.IndexByte", "internal/bytealg.Index", "slices.overlaps[int]"], unfollowed := true, recurses := true, named := ["internal/bytealg.MaxLen"], plainKeys := false, apart := false, narrowed := true }
def TopShapesUptoSaid : Prop := topShapesUptoRow.holds Tryz.pinned (OpenSpec.upto topShapesSpec)

/-- 'grafttop.TopBack', WHERE WHAT IT READS IS OF BULK AT MOST 1048576: true; the input reads as it did. -/
def topBackUptoRow : OpenClaim := { program := "ytaehgpeenaomcaagreat", sum := "a74d9e65489d4633dcd71d8d79f640d1aa9a191adc2528a469338c891b827c5b", func := "graft/grafttop.TopBack", spec := "topBack", inPlace := ["internal/bytealg.IndexByte", "internal/bytealg.Index", "slices.overlaps[int]"], unfollowed := true, recurses := true, named := ["internal/bytealg.MaxLen"], plainKeys := false, apart := false, narrowed := true }
def TopBackUptoSaid : Prop := topBackUptoRow.holds Tryz.pinned (OpenSpec.upto topBackSpec)

end Rows
end Go.Proofs.YtaehgpeenaomcaaGreat
