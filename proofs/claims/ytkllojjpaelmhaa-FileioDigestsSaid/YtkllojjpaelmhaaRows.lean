/-
  No cell of these rows narrows 'for every input' (looked for: loops, veiled, ifaces, maps, wideKeys, modest, calm, conditions, laid).
  DERIVED. THE GIVEN ROWS OF THIS SEAT. 5 by the template 'for every input the law returns true; each argument reads behind the call as it read before'; 0 by the template 'total and deterministic' (their statements: YtkllojjpaelmhaaTotals.lean).
  GIVEN WITH THE SEED: the statements are not yours to turn. If you find one false, say at which input.
  Laid BY PROGRAM, IN A SANDBOX (cutbox-rows.mjs): the forced cells as the released guide's own fill.sh prints them over the translation 222a32b7392c8740… (all of the seat's roots in one cut). By AI agents, Wed Nov 11 2026. No macro, syntax, notation, axiom, sorry.
-/
import Derived.Test.YtkllojjpaelmhaaChecked
import GoSem.Claim
import GoSem.ClaimJoined
import GoSem.ClaimMapViews
import Derived.JoinedTies
import Derived.KernelRfl
namespace Go.Proofs.Ytkllojjpaelmhaa
/- THE CELL 'sum', in the pinned program and in every row, IS THE sha256 OF THE DUMP (.gsa) THAT YtkllojjpaelmhaaProg.lean LOADS. Nothing in Lean hashes anything: it is a label: what it is worth is what the hold of that sum in a sandbox is worth. -/
noncomputable def Try.pinned : Pinned := { name := "ytkllojjpaelmhaa", sum := "222a32b7392c8740dd8456ee2c724646bce20e066dfaba864770e85dc41eedf5", checked := Try.checked }
namespace Rows
def none {H : Type} : Left H := { results := [], args := [] }

/-- 'graftlaw20.FileioSectors': WHATEVER THE INPUT: true; the input reads as it did. -/
def fileioSectorsSpec : ChangeSpec := { name := "fileioSectors", fn := fun _ => fun
  | [d1, d2] => { results := [.lit (.bool true)], args := [d1, d2] }
  | _ => none }
def fileioSectorsRow : OpenClaim := { program := "ytkllojjpaelmhaa", sum := "222a32b7392c8740dd8456ee2c724646bce20e066dfaba864770e85dc41eedf5", func := "graft/graftlaw20.FileioSectors", spec := "fileioSectors", unfollowed := true, recurses := true, apart := false }
def FileioSectorsSaid : Prop := fileioSectorsRow.holds Try.pinned (OpenSpec.ofChange fileioSectorsSpec)

/-- ITS FALSE NEIGHBOUR: 'it returns false'. Refute it at one input. -/
def fileioSectorsWrong : ChangeSpec := { name := "fileioSectors", fn := fun _ => fun
  | [d1, d2] => { results := [.lit (.bool false)], args := [d1, d2] }
  | _ => none }
def FileioSectorsWrongFalsely : Prop := fileioSectorsRow.holds Try.pinned (OpenSpec.ofChange fileioSectorsWrong)

/-- 'graftlaw20.FileioReads': WHATEVER THE INPUT: true; the input reads as it did. -/
def fileioReadsSpec : ChangeSpec := { name := "fileioReads", fn := fun _ => fun
  | [d1, d2, d3] => { results := [.lit (.bool true)], args := [d1, d2, d3] }
  | _ => none }
def fileioReadsRow : OpenClaim := { program := "ytkllojjpaelmhaa", sum := "222a32b7392c8740dd8456ee2c724646bce20e066dfaba864770e85dc41eedf5", func := "graft/graftlaw20.FileioReads", spec := "fileioReads", unfollowed := true, recurses := true, apart := false }
def FileioReadsSaid : Prop := fileioReadsRow.holds Try.pinned (OpenSpec.ofChange fileioReadsSpec)

/-- ITS FALSE NEIGHBOUR: 'it returns false'. Refute it at one input. -/
def fileioReadsWrong : ChangeSpec := { name := "fileioReads", fn := fun _ => fun
  | [d1, d2, d3] => { results := [.lit (.bool false)], args := [d1, d2, d3] }
  | _ => none }
def FileioReadsWrongFalsely : Prop := fileioReadsRow.holds Try.pinned (OpenSpec.ofChange fileioReadsWrong)

/-- 'graftlaw20.FileioInverse': WHATEVER THE INPUT: true; the input reads as it did. -/
def fileioInverseSpec : ChangeSpec := { name := "fileioInverse", fn := fun _ => fun
  | [d1, d2] => { results := [.lit (.bool true)], args := [d1, d2] }
  | _ => none }
def fileioInverseRow : OpenClaim := { program := "ytkllojjpaelmhaa", sum := "222a32b7392c8740dd8456ee2c724646bce20e066dfaba864770e85dc41eedf5", func := "graft/graftlaw20.FileioInverse", spec := "fileioInverse", unfollowed := true, recurses := true, apart := false }
def FileioInverseSaid : Prop := fileioInverseRow.holds Try.pinned (OpenSpec.ofChange fileioInverseSpec)

/-- ITS FALSE NEIGHBOUR: 'it returns false'. Refute it at one input. -/
def fileioInverseWrong : ChangeSpec := { name := "fileioInverse", fn := fun _ => fun
  | [d1, d2] => { results := [.lit (.bool false)], args := [d1, d2] }
  | _ => none }
def FileioInverseWrongFalsely : Prop := fileioInverseRow.holds Try.pinned (OpenSpec.ofChange fileioInverseWrong)

/-- 'graftlaw20.FileioWrites': WHATEVER THE INPUT: true; the input reads as it did. -/
def fileioWritesSpec : ChangeSpec := { name := "fileioWrites", fn := fun _ => fun
  | [d1, d2, d3] => { results := [.lit (.bool true)], args := [d1, d2, d3] }
  | _ => none }
def fileioWritesRow : OpenClaim := { program := "ytkllojjpaelmhaa", sum := "222a32b7392c8740dd8456ee2c724646bce20e066dfaba864770e85dc41eedf5", func := "graft/graftlaw20.FileioWrites", spec := "fileioWrites", unfollowed := true, recurses := true, apart := false }
def FileioWritesSaid : Prop := fileioWritesRow.holds Try.pinned (OpenSpec.ofChange fileioWritesSpec)

/-- ITS FALSE NEIGHBOUR: 'it returns false'. Refute it at one input. -/
def fileioWritesWrong : ChangeSpec := { name := "fileioWrites", fn := fun _ => fun
  | [d1, d2, d3] => { results := [.lit (.bool false)], args := [d1, d2, d3] }
  | _ => none }
def FileioWritesWrongFalsely : Prop := fileioWritesRow.holds Try.pinned (OpenSpec.ofChange fileioWritesWrong)

/-- 'graftlaw20.FileioDigests': WHATEVER THE INPUT: true; the input reads as it did. -/
def fileioDigestsSpec : ChangeSpec := { name := "fileioDigests", fn := fun _ => fun
  | [d1, d2, d3] => { results := [.lit (.bool true)], args := [d1, d2, d3] }
  | _ => none }
def fileioDigestsRow : OpenClaim := { program := "ytkllojjpaelmhaa", sum := "222a32b7392c8740dd8456ee2c724646bce20e066dfaba864770e85dc41eedf5", func := "graft/graftlaw20.FileioDigests", spec := "fileioDigests", unfollowed := true, recurses := true, apart := false }
def FileioDigestsSaid : Prop := fileioDigestsRow.holds Try.pinned (OpenSpec.ofChange fileioDigestsSpec)

/-- ITS FALSE NEIGHBOUR: 'it returns false'. Refute it at one input. -/
def fileioDigestsWrong : ChangeSpec := { name := "fileioDigests", fn := fun _ => fun
  | [d1, d2, d3] => { results := [.lit (.bool false)], args := [d1, d2, d3] }
  | _ => none }
def FileioDigestsWrongFalsely : Prop := fileioDigestsRow.holds Try.pinned (OpenSpec.ofChange fileioDigestsWrong)

/- THE SECOND FORM. 'bulk': how many values and letters a reading holds, each counted each time it is reached (what is shared counts as often as it is met; a slice's spare places count too). A statement '..UptoSaid' is the law's where the arguments, and the package variables that the reading takes, are together of bulk at most 1048576: NARROWER than '..Said'. Prove '..Said' where nothing that the law and all that it calls make is longer than what came in: it says more and counts as full. Else prove '..UptoSaid'. A law counts once. -/
mutual
def uptoBulk {H : Type} : DataW H → Nat
  | .lit (.string bytes) => bytes.length + 1
  | .lit _ => 1
  | .nil => 1
  | .ptr d => uptoBulk d + 1
  | .slice elems spare => uptoBulkAll elems + uptoBulkAll spare + 1
  | .agg parts => uptoBulkAll parts + 1
  | .iface _ d => uptoBulk d + 1
  | .map entries => uptoBulkEntries entries + 1
  | .held _ => 1
def uptoBulkAll {H : Type} : List (DataW H) → Nat
  | [] => 0
  | d :: r => uptoBulk d + uptoBulkAll r
def uptoBulkEntries {H : Type} : List (Lit × DataW H) → Nat
  | [] => 0
  | x :: r => uptoBulkEntry x + uptoBulkEntries r
def uptoBulkEntry {H : Type} : Lit × DataW H → Nat
  | (.string bytes, d) => bytes.length + uptoBulk d + 1
  | (_, d) => uptoBulk d + 1
 end
def uptoSmall : (H : Type) → List (DataW H) → Bool := fun _ ds => decide (uptoBulkAll ds ≤ 1048576)
def OpenSpec.upto (s : _root_.Go.ChangeSpec) : _root_.Go.OpenSpec := { _root_.Go.OpenSpec.ofChange s with cond := some uptoSmall }

/-- 'graftlaw20.FileioSectors', WHERE WHAT IT READS IS OF BULK AT MOST 1048576: true; the input reads as it did. -/
def fileioSectorsUptoRow : OpenClaim := { program := "ytkllojjpaelmhaa", sum := "222a32b7392c8740dd8456ee2c724646bce20e066dfaba864770e85dc41eedf5", func := "graft/graftlaw20.FileioSectors", spec := "fileioSectors", unfollowed := true, recurses := true, apart := false, narrowed := true }
def FileioSectorsUptoSaid : Prop := fileioSectorsUptoRow.holds Try.pinned (OpenSpec.upto fileioSectorsSpec)

/-- 'graftlaw20.FileioReads', WHERE WHAT IT READS IS OF BULK AT MOST 1048576: true; the input reads as it did. -/
def fileioReadsUptoRow : OpenClaim := { program := "ytkllojjpaelmhaa", sum := "222a32b7392c8740dd8456ee2c724646bce20e066dfaba864770e85dc41eedf5", func := "graft/graftlaw20.FileioReads", spec := "fileioReads", unfollowed := true, recurses := true, apart := false, narrowed := true }
def FileioReadsUptoSaid : Prop := fileioReadsUptoRow.holds Try.pinned (OpenSpec.upto fileioReadsSpec)

/-- 'graftlaw20.FileioInverse', WHERE WHAT IT READS IS OF BULK AT MOST 1048576: true; the input reads as it did. -/
def fileioInverseUptoRow : OpenClaim := { program := "ytkllojjpaelmhaa", sum := "222a32b7392c8740dd8456ee2c724646bce20e066dfaba864770e85dc41eedf5", func := "graft/graftlaw20.FileioInverse", spec := "fileioInverse", unfollowed := true, recurses := true, apart := false, narrowed := true }
def FileioInverseUptoSaid : Prop := fileioInverseUptoRow.holds Try.pinned (OpenSpec.upto fileioInverseSpec)

/-- 'graftlaw20.FileioWrites', WHERE WHAT IT READS IS OF BULK AT MOST 1048576: true; the input reads as it did. -/
def fileioWritesUptoRow : OpenClaim := { program := "ytkllojjpaelmhaa", sum := "222a32b7392c8740dd8456ee2c724646bce20e066dfaba864770e85dc41eedf5", func := "graft/graftlaw20.FileioWrites", spec := "fileioWrites", unfollowed := true, recurses := true, apart := false, narrowed := true }
def FileioWritesUptoSaid : Prop := fileioWritesUptoRow.holds Try.pinned (OpenSpec.upto fileioWritesSpec)

/-- 'graftlaw20.FileioDigests', WHERE WHAT IT READS IS OF BULK AT MOST 1048576: true; the input reads as it did. -/
def fileioDigestsUptoRow : OpenClaim := { program := "ytkllojjpaelmhaa", sum := "222a32b7392c8740dd8456ee2c724646bce20e066dfaba864770e85dc41eedf5", func := "graft/graftlaw20.FileioDigests", spec := "fileioDigests", unfollowed := true, recurses := true, apart := false, narrowed := true }
def FileioDigestsUptoSaid : Prop := fileioDigestsUptoRow.holds Try.pinned (OpenSpec.upto fileioDigestsSpec)

end Rows
end Go.Proofs.Ytkllojjpaelmhaa
