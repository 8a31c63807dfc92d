/-
  No cell of these rows narrows 'for every input' (looked for: loops, veiled, ifaces, maps, wideKeys, modest, calm, conditions, laid).
  DERIVED. THE GIVEN ROWS OF THIS SEAT. 6 by the template 'for every input the law returns true; each argument reads behind the call as it read before'; 0 by the template 'total and deterministic' (their statements: YtpandemmaoeioaaTotals.lean).
  GIVEN WITH THE SEED: the statements are not yours to turn. If you find one false, say at which input.
  Laid BY PROGRAM, IN A SANDBOX (cutbox-rows.mjs): the forced cells as the released guide's own fill.sh prints them over the translation 43259413f7e54dc8… (all of the seat's roots in one cut). By AI agents, Wed Nov 11 2026. No macro, syntax, notation, axiom, sorry.
-/
import Derived.Test.YtpandemmaoeioaaChecked
import GoSem.Claim
import GoSem.ClaimJoined
import GoSem.ClaimMapViews
import Derived.JoinedTies
import Derived.KernelRfl
namespace Go.Proofs.Ytpandemmaoeioaa
/- THE CELL 'sum', in the pinned program and in every row, IS THE sha256 OF THE DUMP (.gsa) THAT YtpandemmaoeioaaProg.lean LOADS. Nothing in Lean hashes anything: it is a label: what it is worth is what the hold of that sum in a sandbox is worth. -/
noncomputable def Try.pinned : Pinned := { name := "ytpandemmaoeioaa", sum := "43259413f7e54dc8f0d59efde7b32755251694c0b806b6cacea8ff10d9515a1c", checked := Try.checked }
namespace Rows
def none {H : Type} : Left H := { results := [], args := [] }

/-- 'graftlaw18.PlanSteps': WHATEVER THE INPUT: true; the input reads as it did. -/
def planStepsSpec : ChangeSpec := { name := "planSteps", fn := fun _ => fun
  | [d1, d2, d3] => { results := [.lit (.bool true)], args := [d1, d2, d3] }
  | _ => none }
def planStepsRow : OpenClaim := { program := "ytpandemmaoeioaa", sum := "43259413f7e54dc8f0d59efde7b32755251694c0b806b6cacea8ff10d9515a1c", func := "graft/graftlaw18.PlanSteps", spec := "planSteps", unfollowed := true, recurses := true, apart := false }
def PlanStepsSaid : Prop := planStepsRow.holds Try.pinned (OpenSpec.ofChange planStepsSpec)

/-- ITS FALSE NEIGHBOUR: 'it returns false'. Refute it at one input. -/
def planStepsWrong : ChangeSpec := { name := "planSteps", fn := fun _ => fun
  | [d1, d2, d3] => { results := [.lit (.bool false)], args := [d1, d2, d3] }
  | _ => none }
def PlanStepsWrongFalsely : Prop := planStepsRow.holds Try.pinned (OpenSpec.ofChange planStepsWrong)

/-- 'graftlaw18.PlanCounts': WHATEVER THE INPUT: true; the input reads as it did. -/
def planCountsSpec : ChangeSpec := { name := "planCounts", fn := fun _ => fun
  | [d1, d2, d3] => { results := [.lit (.bool true)], args := [d1, d2, d3] }
  | _ => none }
def planCountsRow : OpenClaim := { program := "ytpandemmaoeioaa", sum := "43259413f7e54dc8f0d59efde7b32755251694c0b806b6cacea8ff10d9515a1c", func := "graft/graftlaw18.PlanCounts", spec := "planCounts", unfollowed := true, recurses := true, apart := false }
def PlanCountsSaid : Prop := planCountsRow.holds Try.pinned (OpenSpec.ofChange planCountsSpec)

/-- ITS FALSE NEIGHBOUR: 'it returns false'. Refute it at one input. -/
def planCountsWrong : ChangeSpec := { name := "planCounts", fn := fun _ => fun
  | [d1, d2, d3] => { results := [.lit (.bool false)], args := [d1, d2, d3] }
  | _ => none }
def PlanCountsWrongFalsely : Prop := planCountsRow.holds Try.pinned (OpenSpec.ofChange planCountsWrong)

/-- 'graftlaw18.PlanBytes': WHATEVER THE INPUT: true; the input reads as it did. -/
def planBytesSpec : ChangeSpec := { name := "planBytes", fn := fun _ => fun
  | [d1, d2, d3] => { results := [.lit (.bool true)], args := [d1, d2, d3] }
  | _ => none }
def planBytesRow : OpenClaim := { program := "ytpandemmaoeioaa", sum := "43259413f7e54dc8f0d59efde7b32755251694c0b806b6cacea8ff10d9515a1c", func := "graft/graftlaw18.PlanBytes", spec := "planBytes", unfollowed := true, recurses := true, apart := false }
def PlanBytesSaid : Prop := planBytesRow.holds Try.pinned (OpenSpec.ofChange planBytesSpec)

/-- ITS FALSE NEIGHBOUR: 'it returns false'. Refute it at one input. -/
def planBytesWrong : ChangeSpec := { name := "planBytes", fn := fun _ => fun
  | [d1, d2, d3] => { results := [.lit (.bool false)], args := [d1, d2, d3] }
  | _ => none }
def PlanBytesWrongFalsely : Prop := planBytesRow.holds Try.pinned (OpenSpec.ofChange planBytesWrong)

/-- 'graftlaw18.PlanRuns': WHATEVER THE INPUT: true; the input reads as it did. -/
def planRunsSpec : ChangeSpec := { name := "planRuns", fn := fun _ => fun
  | [d1, d2, d3] => { results := [.lit (.bool true)], args := [d1, d2, d3] }
  | _ => none }
def planRunsRow : OpenClaim := { program := "ytpandemmaoeioaa", sum := "43259413f7e54dc8f0d59efde7b32755251694c0b806b6cacea8ff10d9515a1c", func := "graft/graftlaw18.PlanRuns", spec := "planRuns", unfollowed := true, recurses := true, apart := false }
def PlanRunsSaid : Prop := planRunsRow.holds Try.pinned (OpenSpec.ofChange planRunsSpec)

/-- ITS FALSE NEIGHBOUR: 'it returns false'. Refute it at one input. -/
def planRunsWrong : ChangeSpec := { name := "planRuns", fn := fun _ => fun
  | [d1, d2, d3] => { results := [.lit (.bool false)], args := [d1, d2, d3] }
  | _ => none }
def PlanRunsWrongFalsely : Prop := planRunsRow.holds Try.pinned (OpenSpec.ofChange planRunsWrong)

/-- 'graftlaw18.PlanParts': WHATEVER THE INPUT: true; the input reads as it did. -/
def planPartsSpec : ChangeSpec := { name := "planParts", fn := fun _ => fun
  | [d1, d2, d3] => { results := [.lit (.bool true)], args := [d1, d2, d3] }
  | _ => none }
def planPartsRow : OpenClaim := { program := "ytpandemmaoeioaa", sum := "43259413f7e54dc8f0d59efde7b32755251694c0b806b6cacea8ff10d9515a1c", func := "graft/graftlaw18.PlanParts", spec := "planParts", unfollowed := true, recurses := true, apart := false }
def PlanPartsSaid : Prop := planPartsRow.holds Try.pinned (OpenSpec.ofChange planPartsSpec)

/-- ITS FALSE NEIGHBOUR: 'it returns false'. Refute it at one input. -/
def planPartsWrong : ChangeSpec := { name := "planParts", fn := fun _ => fun
  | [d1, d2, d3] => { results := [.lit (.bool false)], args := [d1, d2, d3] }
  | _ => none }
def PlanPartsWrongFalsely : Prop := planPartsRow.holds Try.pinned (OpenSpec.ofChange planPartsWrong)

/-- 'graftlaw18.PlanTwice': WHATEVER THE INPUT: true; the input reads as it did. -/
def planTwiceSpec : ChangeSpec := { name := "planTwice", fn := fun _ => fun
  | [d1, d2, d3] => { results := [.lit (.bool true)], args := [d1, d2, d3] }
  | _ => none }
def planTwiceRow : OpenClaim := { program := "ytpandemmaoeioaa", sum := "43259413f7e54dc8f0d59efde7b32755251694c0b806b6cacea8ff10d9515a1c", func := "graft/graftlaw18.PlanTwice", spec := "planTwice", unfollowed := true, recurses := true, apart := false }
def PlanTwiceSaid : Prop := planTwiceRow.holds Try.pinned (OpenSpec.ofChange planTwiceSpec)

/-- ITS FALSE NEIGHBOUR: 'it returns false'. Refute it at one input. -/
def planTwiceWrong : ChangeSpec := { name := "planTwice", fn := fun _ => fun
  | [d1, d2, d3] => { results := [.lit (.bool false)], args := [d1, d2, d3] }
  | _ => none }
def PlanTwiceWrongFalsely : Prop := planTwiceRow.holds Try.pinned (OpenSpec.ofChange planTwiceWrong)

/- THE SECOND FORM. 'bulk': how many values and letters a reading holds, each counted each time it is reached (what is shared counts as often as it is met; a slice's spare places count too). A statement '..UptoSaid' is the law's where the arguments, and the package variables that the reading takes, are together of bulk at most 1048576: NARROWER than '..Said'. Prove '..Said' where nothing that the law and all that it calls make is longer than what came in: it says more and counts as full. Else prove '..UptoSaid'. A law counts once. -/
mutual
def uptoBulk {H : Type} : DataW H → Nat
  | .lit (.string bytes) => bytes.length + 1
  | .lit _ => 1
  | .nil => 1
  | .ptr d => uptoBulk d + 1
  | .slice elems spare => uptoBulkAll elems + uptoBulkAll spare + 1
  | .agg parts => uptoBulkAll parts + 1
  | .iface _ d => uptoBulk d + 1
  | .map entries => uptoBulkEntries entries + 1
  | .held _ => 1
def uptoBulkAll {H : Type} : List (DataW H) → Nat
  | [] => 0
  | d :: r => uptoBulk d + uptoBulkAll r
def uptoBulkEntries {H : Type} : List (Lit × DataW H) → Nat
  | [] => 0
  | x :: r => uptoBulkEntry x + uptoBulkEntries r
def uptoBulkEntry {H : Type} : Lit × DataW H → Nat
  | (.string bytes, d) => bytes.length + uptoBulk d + 1
  | (_, d) => uptoBulk d + 1
 end
def uptoSmall : (H : Type) → List (DataW H) → Bool := fun _ ds => decide (uptoBulkAll ds ≤ 1048576)
def OpenSpec.upto (s : _root_.Go.ChangeSpec) : _root_.Go.OpenSpec := { _root_.Go.OpenSpec.ofChange s with cond := some uptoSmall }

/-- 'graftlaw18.PlanSteps', WHERE WHAT IT READS IS OF BULK AT MOST 1048576: true; the input reads as it did. -/
def planStepsUptoRow : OpenClaim := { program := "ytpandemmaoeioaa", sum := "43259413f7e54dc8f0d59efde7b32755251694c0b806b6cacea8ff10d9515a1c", func := "graft/graftlaw18.PlanSteps", spec := "planSteps", unfollowed := true, recurses := true, apart := false, narrowed := true }
def PlanStepsUptoSaid : Prop := planStepsUptoRow.holds Try.pinned (OpenSpec.upto planStepsSpec)

/-- 'graftlaw18.PlanCounts', WHERE WHAT IT READS IS OF BULK AT MOST 1048576: true; the input reads as it did. -/
def planCountsUptoRow : OpenClaim := { program := "ytpandemmaoeioaa", sum := "43259413f7e54dc8f0d59efde7b32755251694c0b806b6cacea8ff10d9515a1c", func := "graft/graftlaw18.PlanCounts", spec := "planCounts", unfollowed := true, recurses := true, apart := false, narrowed := true }
def PlanCountsUptoSaid : Prop := planCountsUptoRow.holds Try.pinned (OpenSpec.upto planCountsSpec)

/-- 'graftlaw18.PlanBytes', WHERE WHAT IT READS IS OF BULK AT MOST 1048576: true; the input reads as it did. -/
def planBytesUptoRow : OpenClaim := { program := "ytpandemmaoeioaa", sum := "43259413f7e54dc8f0d59efde7b32755251694c0b806b6cacea8ff10d9515a1c", func := "graft/graftlaw18.PlanBytes", spec := "planBytes", unfollowed := true, recurses := true, apart := false, narrowed := true }
def PlanBytesUptoSaid : Prop := planBytesUptoRow.holds Try.pinned (OpenSpec.upto planBytesSpec)

/-- 'graftlaw18.PlanRuns', WHERE WHAT IT READS IS OF BULK AT MOST 1048576: true; the input reads as it did. -/
def planRunsUptoRow : OpenClaim := { program := "ytpandemmaoeioaa", sum := "43259413f7e54dc8f0d59efde7b32755251694c0b806b6cacea8ff10d9515a1c", func := "graft/graftlaw18.PlanRuns", spec := "planRuns", unfollowed := true, recurses := true, apart := false, narrowed := true }
def PlanRunsUptoSaid : Prop := planRunsUptoRow.holds Try.pinned (OpenSpec.upto planRunsSpec)

/-- 'graftlaw18.PlanParts', WHERE WHAT IT READS IS OF BULK AT MOST 1048576: true; the input reads as it did. -/
def planPartsUptoRow : OpenClaim := { program := "ytpandemmaoeioaa", sum := "43259413f7e54dc8f0d59efde7b32755251694c0b806b6cacea8ff10d9515a1c", func := "graft/graftlaw18.PlanParts", spec := "planParts", unfollowed := true, recurses := true, apart := false, narrowed := true }
def PlanPartsUptoSaid : Prop := planPartsUptoRow.holds Try.pinned (OpenSpec.upto planPartsSpec)

/-- 'graftlaw18.PlanTwice', WHERE WHAT IT READS IS OF BULK AT MOST 1048576: true; the input reads as it did. -/
def planTwiceUptoRow : OpenClaim := { program := "ytpandemmaoeioaa", sum := "43259413f7e54dc8f0d59efde7b32755251694c0b806b6cacea8ff10d9515a1c", func := "graft/graftlaw18.PlanTwice", spec := "planTwice", unfollowed := true, recurses := true, apart := false, narrowed := true }
def PlanTwiceUptoSaid : Prop := planTwiceUptoRow.holds Try.pinned (OpenSpec.upto planTwiceSpec)

end Rows
end Go.Proofs.Ytpandemmaoeioaa
