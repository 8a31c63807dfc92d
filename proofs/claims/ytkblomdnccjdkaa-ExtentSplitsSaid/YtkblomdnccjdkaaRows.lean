/-
  No cell of these rows narrows 'for every input' (looked for: loops, veiled, ifaces, maps, wideKeys, modest, calm, conditions, laid).
  DERIVED. THE GIVEN ROWS OF THIS SEAT. 6 by the template 'for every input the law returns true; each argument reads behind the call as it read before'; 0 by the template 'total and deterministic' (their statements: YtkblomdnccjdkaaTotals.lean).
  GIVEN WITH THE SEED: the statements are not yours to turn. If you find one false, say at which input.
  Laid BY PROGRAM, IN A SANDBOX (cutbox-rows.mjs): the forced cells as the released guide's own fill.sh prints them over the translation a4e3d57c881ef74f… (all of the seat's roots in one cut). By AI agents, Wed Nov 11 2026. No macro, syntax, notation, axiom, sorry.
-/
import Derived.Test.YtkblomdnccjdkaaChecked
import GoSem.Claim
import GoSem.ClaimJoined
import GoSem.ClaimMapViews
import Derived.JoinedTies
import Derived.KernelRfl
namespace Go.Proofs.Ytkblomdnccjdkaa
/- THE CELL 'sum', in the pinned program and in every row, IS THE sha256 OF THE DUMP (.gsa) THAT YtkblomdnccjdkaaProg.lean LOADS. Nothing in Lean hashes anything: it is a label: what it is worth is what the hold of that sum in a sandbox is worth. -/
noncomputable def Try.pinned : Pinned := { name := "ytkblomdnccjdkaa", sum := "a4e3d57c881ef74ff92ed2f42ff738ad83a3519b03eead971840419a344a6609", checked := Try.checked }
namespace Rows
def none {H : Type} : Left H := { results := [], args := [] }

/-- 'graftlaw01.ExtentValid': WHATEVER THE INPUT: true; the input reads as it did. -/
def extentValidSpec : ChangeSpec := { name := "extentValid", fn := fun _ => fun
  | [d] => { results := [.lit (.bool true)], args := [d] }
  | _ => none }
def extentValidRow : OpenClaim := { program := "ytkblomdnccjdkaa", sum := "a4e3d57c881ef74ff92ed2f42ff738ad83a3519b03eead971840419a344a6609", func := "graft/graftlaw01.ExtentValid", spec := "extentValid", unfollowed := true, recurses := true, apart := false }
def ExtentValidSaid : Prop := extentValidRow.holds Try.pinned (OpenSpec.ofChange extentValidSpec)

/-- ITS FALSE NEIGHBOUR: 'it returns false'. Refute it at one input. -/
def extentValidWrong : ChangeSpec := { name := "extentValid", fn := fun _ => fun
  | [d] => { results := [.lit (.bool false)], args := [d] }
  | _ => none }
def ExtentValidWrongFalsely : Prop := extentValidRow.holds Try.pinned (OpenSpec.ofChange extentValidWrong)

/-- 'graftlaw01.ExtentShifts': WHATEVER THE INPUT: true; the input reads as it did. -/
def extentShiftsSpec : ChangeSpec := { name := "extentShifts", fn := fun _ => fun
  | [d1, d2] => { results := [.lit (.bool true)], args := [d1, d2] }
  | _ => none }
def extentShiftsRow : OpenClaim := { program := "ytkblomdnccjdkaa", sum := "a4e3d57c881ef74ff92ed2f42ff738ad83a3519b03eead971840419a344a6609", func := "graft/graftlaw01.ExtentShifts", spec := "extentShifts", unfollowed := true, recurses := true, apart := false }
def ExtentShiftsSaid : Prop := extentShiftsRow.holds Try.pinned (OpenSpec.ofChange extentShiftsSpec)

/-- ITS FALSE NEIGHBOUR: 'it returns false'. Refute it at one input. -/
def extentShiftsWrong : ChangeSpec := { name := "extentShifts", fn := fun _ => fun
  | [d1, d2] => { results := [.lit (.bool false)], args := [d1, d2] }
  | _ => none }
def ExtentShiftsWrongFalsely : Prop := extentShiftsRow.holds Try.pinned (OpenSpec.ofChange extentShiftsWrong)

/-- 'graftlaw01.ExtentMeets': WHATEVER THE INPUT: true; the input reads as it did. -/
def extentMeetsSpec : ChangeSpec := { name := "extentMeets", fn := fun _ => fun
  | [d1, d2] => { results := [.lit (.bool true)], args := [d1, d2] }
  | _ => none }
def extentMeetsRow : OpenClaim := { program := "ytkblomdnccjdkaa", sum := "a4e3d57c881ef74ff92ed2f42ff738ad83a3519b03eead971840419a344a6609", func := "graft/graftlaw01.ExtentMeets", spec := "extentMeets", unfollowed := true, recurses := true, apart := false }
def ExtentMeetsSaid : Prop := extentMeetsRow.holds Try.pinned (OpenSpec.ofChange extentMeetsSpec)

/-- ITS FALSE NEIGHBOUR: 'it returns false'. Refute it at one input. -/
def extentMeetsWrong : ChangeSpec := { name := "extentMeets", fn := fun _ => fun
  | [d1, d2] => { results := [.lit (.bool false)], args := [d1, d2] }
  | _ => none }
def ExtentMeetsWrongFalsely : Prop := extentMeetsRow.holds Try.pinned (OpenSpec.ofChange extentMeetsWrong)

/-- 'graftlaw01.ExtentSplits': WHATEVER THE INPUT: true; the input reads as it did. -/
def extentSplitsSpec : ChangeSpec := { name := "extentSplits", fn := fun _ => fun
  | [d1, d2] => { results := [.lit (.bool true)], args := [d1, d2] }
  | _ => none }
def extentSplitsRow : OpenClaim := { program := "ytkblomdnccjdkaa", sum := "a4e3d57c881ef74ff92ed2f42ff738ad83a3519b03eead971840419a344a6609", func := "graft/graftlaw01.ExtentSplits", spec := "extentSplits", unfollowed := true, recurses := true, apart := false }
def ExtentSplitsSaid : Prop := extentSplitsRow.holds Try.pinned (OpenSpec.ofChange extentSplitsSpec)

/-- ITS FALSE NEIGHBOUR: 'it returns false'. Refute it at one input. -/
def extentSplitsWrong : ChangeSpec := { name := "extentSplits", fn := fun _ => fun
  | [d1, d2] => { results := [.lit (.bool false)], args := [d1, d2] }
  | _ => none }
def ExtentSplitsWrongFalsely : Prop := extentSplitsRow.holds Try.pinned (OpenSpec.ofChange extentSplitsWrong)

/-- 'graftlaw01.ExtentTotals': WHATEVER THE INPUT: true; the input reads as it did. -/
def extentTotalsSpec : ChangeSpec := { name := "extentTotals", fn := fun _ => fun
  | [d1, d2] => { results := [.lit (.bool true)], args := [d1, d2] }
  | _ => none }
def extentTotalsRow : OpenClaim := { program := "ytkblomdnccjdkaa", sum := "a4e3d57c881ef74ff92ed2f42ff738ad83a3519b03eead971840419a344a6609", func := "graft/graftlaw01.ExtentTotals", spec := "extentTotals", unfollowed := true, recurses := true, apart := false }
def ExtentTotalsSaid : Prop := extentTotalsRow.holds Try.pinned (OpenSpec.ofChange extentTotalsSpec)

/-- ITS FALSE NEIGHBOUR: 'it returns false'. Refute it at one input. -/
def extentTotalsWrong : ChangeSpec := { name := "extentTotals", fn := fun _ => fun
  | [d1, d2] => { results := [.lit (.bool false)], args := [d1, d2] }
  | _ => none }
def ExtentTotalsWrongFalsely : Prop := extentTotalsRow.holds Try.pinned (OpenSpec.ofChange extentTotalsWrong)

/-- 'graftlaw01.ExtentJoins': WHATEVER THE INPUT: true; the input reads as it did. -/
def extentJoinsSpec : ChangeSpec := { name := "extentJoins", fn := fun _ => fun
  | [d1, d2] => { results := [.lit (.bool true)], args := [d1, d2] }
  | _ => none }
def extentJoinsRow : OpenClaim := { program := "ytkblomdnccjdkaa", sum := "a4e3d57c881ef74ff92ed2f42ff738ad83a3519b03eead971840419a344a6609", func := "graft/graftlaw01.ExtentJoins", spec := "extentJoins", unfollowed := true, recurses := true, apart := false }
def ExtentJoinsSaid : Prop := extentJoinsRow.holds Try.pinned (OpenSpec.ofChange extentJoinsSpec)

/-- ITS FALSE NEIGHBOUR: 'it returns false'. Refute it at one input. -/
def extentJoinsWrong : ChangeSpec := { name := "extentJoins", fn := fun _ => fun
  | [d1, d2] => { results := [.lit (.bool false)], args := [d1, d2] }
  | _ => none }
def ExtentJoinsWrongFalsely : Prop := extentJoinsRow.holds Try.pinned (OpenSpec.ofChange extentJoinsWrong)

/- THE SECOND FORM. 'bulk': how many values and letters a reading holds, each counted each time it is reached (what is shared counts as often as it is met; a slice's spare places count too). A statement '..UptoSaid' is the law's where the arguments, and the package variables that the reading takes, are together of bulk at most 1048576: NARROWER than '..Said'. Prove '..Said' where nothing that the law and all that it calls make is longer than what came in: it says more and counts as full. Else prove '..UptoSaid'. A law counts once. -/
mutual
def uptoBulk {H : Type} : DataW H → Nat
  | .lit (.string bytes) => bytes.length + 1
  | .lit _ => 1
  | .nil => 1
  | .ptr d => uptoBulk d + 1
  | .slice elems spare => uptoBulkAll elems + uptoBulkAll spare + 1
  | .agg parts => uptoBulkAll parts + 1
  | .iface _ d => uptoBulk d + 1
  | .map entries => uptoBulkEntries entries + 1
  | .held _ => 1
def uptoBulkAll {H : Type} : List (DataW H) → Nat
  | [] => 0
  | d :: r => uptoBulk d + uptoBulkAll r
def uptoBulkEntries {H : Type} : List (Lit × DataW H) → Nat
  | [] => 0
  | x :: r => uptoBulkEntry x + uptoBulkEntries r
def uptoBulkEntry {H : Type} : Lit × DataW H → Nat
  | (.string bytes, d) => bytes.length + uptoBulk d + 1
  | (_, d) => uptoBulk d + 1
 end
def uptoSmall : (H : Type) → List (DataW H) → Bool := fun _ ds => decide (uptoBulkAll ds ≤ 1048576)
def OpenSpec.upto (s : _root_.Go.ChangeSpec) : _root_.Go.OpenSpec := { _root_.Go.OpenSpec.ofChange s with cond := some uptoSmall }

/-- 'graftlaw01.ExtentValid', WHERE WHAT IT READS IS OF BULK AT MOST 1048576: true; the input reads as it did. -/
def extentValidUptoRow : OpenClaim := { program := "ytkblomdnccjdkaa", sum := "a4e3d57c881ef74ff92ed2f42ff738ad83a3519b03eead971840419a344a6609", func := "graft/graftlaw01.ExtentValid", spec := "extentValid", unfollowed := true, recurses := true, apart := false, narrowed := true }
def ExtentValidUptoSaid : Prop := extentValidUptoRow.holds Try.pinned (OpenSpec.upto extentValidSpec)

/-- 'graftlaw01.ExtentShifts', WHERE WHAT IT READS IS OF BULK AT MOST 1048576: true; the input reads as it did. -/
def extentShiftsUptoRow : OpenClaim := { program := "ytkblomdnccjdkaa", sum := "a4e3d57c881ef74ff92ed2f42ff738ad83a3519b03eead971840419a344a6609", func := "graft/graftlaw01.ExtentShifts", spec := "extentShifts", unfollowed := true, recurses := true, apart := false, narrowed := true }
def ExtentShiftsUptoSaid : Prop := extentShiftsUptoRow.holds Try.pinned (OpenSpec.upto extentShiftsSpec)

/-- 'graftlaw01.ExtentMeets', WHERE WHAT IT READS IS OF BULK AT MOST 1048576: true; the input reads as it did. -/
def extentMeetsUptoRow : OpenClaim := { program := "ytkblomdnccjdkaa", sum := "a4e3d57c881ef74ff92ed2f42ff738ad83a3519b03eead971840419a344a6609", func := "graft/graftlaw01.ExtentMeets", spec := "extentMeets", unfollowed := true, recurses := true, apart := false, narrowed := true }
def ExtentMeetsUptoSaid : Prop := extentMeetsUptoRow.holds Try.pinned (OpenSpec.upto extentMeetsSpec)

/-- 'graftlaw01.ExtentSplits', WHERE WHAT IT READS IS OF BULK AT MOST 1048576: true; the input reads as it did. -/
def extentSplitsUptoRow : OpenClaim := { program := "ytkblomdnccjdkaa", sum := "a4e3d57c881ef74ff92ed2f42ff738ad83a3519b03eead971840419a344a6609", func := "graft/graftlaw01.ExtentSplits", spec := "extentSplits", unfollowed := true, recurses := true, apart := false, narrowed := true }
def ExtentSplitsUptoSaid : Prop := extentSplitsUptoRow.holds Try.pinned (OpenSpec.upto extentSplitsSpec)

/-- 'graftlaw01.ExtentTotals', WHERE WHAT IT READS IS OF BULK AT MOST 1048576: true; the input reads as it did. -/
def extentTotalsUptoRow : OpenClaim := { program := "ytkblomdnccjdkaa", sum := "a4e3d57c881ef74ff92ed2f42ff738ad83a3519b03eead971840419a344a6609", func := "graft/graftlaw01.ExtentTotals", spec := "extentTotals", unfollowed := true, recurses := true, apart := false, narrowed := true }
def ExtentTotalsUptoSaid : Prop := extentTotalsUptoRow.holds Try.pinned (OpenSpec.upto extentTotalsSpec)

/-- 'graftlaw01.ExtentJoins', WHERE WHAT IT READS IS OF BULK AT MOST 1048576: true; the input reads as it did. -/
def extentJoinsUptoRow : OpenClaim := { program := "ytkblomdnccjdkaa", sum := "a4e3d57c881ef74ff92ed2f42ff738ad83a3519b03eead971840419a344a6609", func := "graft/graftlaw01.ExtentJoins", spec := "extentJoins", unfollowed := true, recurses := true, apart := false, narrowed := true }
def ExtentJoinsUptoSaid : Prop := extentJoinsUptoRow.holds Try.pinned (OpenSpec.upto extentJoinsSpec)

end Rows
end Go.Proofs.Ytkblomdnccjdkaa
