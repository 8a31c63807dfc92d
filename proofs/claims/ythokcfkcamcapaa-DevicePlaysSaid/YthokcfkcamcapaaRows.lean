/-
  No cell of these rows narrows 'for every input' (looked for: loops, veiled, ifaces, maps, wideKeys, modest, calm, conditions, laid).
  DERIVED. THE GIVEN ROWS OF THIS SEAT. 5 by the template 'for every input the law returns true; each argument reads behind the call as it read before'; 0 by the template 'total and deterministic' (their statements: YthokcfkcamcapaaTotals.lean).
  GIVEN WITH THE SEED: the statements are not yours to turn. If you find one false, say at which input.
  Laid BY PROGRAM, IN A SANDBOX (cutbox-rows.mjs): the forced cells as the released guide's own fill.sh prints them over the translation 0fb4760085cc3027… (all of the seat's roots in one cut). By AI agents, Wed Nov 11 2026. No macro, syntax, notation, axiom, sorry.
-/
import Derived.Test.YthokcfkcamcapaaChecked
import GoSem.Claim
import GoSem.ClaimJoined
import GoSem.ClaimMapViews
import Derived.JoinedTies
import Derived.KernelRfl
namespace Go.Proofs.Ythokcfkcamcapaa
/- THE CELL 'sum', in the pinned program and in every row, IS THE sha256 OF THE DUMP (.gsa) THAT YthokcfkcamcapaaProg.lean LOADS. Nothing in Lean hashes anything: it is a label: what it is worth is what the hold of that sum in a sandbox is worth. -/
noncomputable def Try.pinned : Pinned := { name := "ythokcfkcamcapaa", sum := "0fb4760085cc3027a5e65648c68d5d8cd89b18e26fad585c74aefd74d9e37df8", checked := Try.checked }
namespace Rows
def none {H : Type} : Left H := { results := [], args := [] }

/-- 'graftlaw19.DeviceMakes': WHATEVER THE INPUT: true; the input reads as it did. -/
def deviceMakesSpec : ChangeSpec := { name := "deviceMakes", fn := fun _ => fun
  | [d1, d2, d3] => { results := [.lit (.bool true)], args := [d1, d2, d3] }
  | _ => none }
def deviceMakesRow : OpenClaim := { program := "ythokcfkcamcapaa", sum := "0fb4760085cc3027a5e65648c68d5d8cd89b18e26fad585c74aefd74d9e37df8", func := "graft/graftlaw19.DeviceMakes", spec := "deviceMakes", unfollowed := true, recurses := true, apart := false }
def DeviceMakesSaid : Prop := deviceMakesRow.holds Try.pinned (OpenSpec.ofChange deviceMakesSpec)

/-- ITS FALSE NEIGHBOUR: 'it returns false'. Refute it at one input. -/
def deviceMakesWrong : ChangeSpec := { name := "deviceMakes", fn := fun _ => fun
  | [d1, d2, d3] => { results := [.lit (.bool false)], args := [d1, d2, d3] }
  | _ => none }
def DeviceMakesWrongFalsely : Prop := deviceMakesRow.holds Try.pinned (OpenSpec.ofChange deviceMakesWrong)

/-- 'graftlaw19.DeviceFlushes': WHATEVER THE INPUT: true; the input reads as it did. -/
def deviceFlushesSpec : ChangeSpec := { name := "deviceFlushes", fn := fun _ => fun
  | [d1, d2] => { results := [.lit (.bool true)], args := [d1, d2] }
  | _ => none }
def deviceFlushesRow : OpenClaim := { program := "ythokcfkcamcapaa", sum := "0fb4760085cc3027a5e65648c68d5d8cd89b18e26fad585c74aefd74d9e37df8", func := "graft/graftlaw19.DeviceFlushes", spec := "deviceFlushes", unfollowed := true, recurses := true, apart := false }
def DeviceFlushesSaid : Prop := deviceFlushesRow.holds Try.pinned (OpenSpec.ofChange deviceFlushesSpec)

/-- ITS FALSE NEIGHBOUR: 'it returns false'. Refute it at one input. -/
def deviceFlushesWrong : ChangeSpec := { name := "deviceFlushes", fn := fun _ => fun
  | [d1, d2] => { results := [.lit (.bool false)], args := [d1, d2] }
  | _ => none }
def DeviceFlushesWrongFalsely : Prop := deviceFlushesRow.holds Try.pinned (OpenSpec.ofChange deviceFlushesWrong)

/-- 'graftlaw19.DeviceCrashes': WHATEVER THE INPUT: true; the input reads as it did. -/
def deviceCrashesSpec : ChangeSpec := { name := "deviceCrashes", fn := fun _ => fun
  | [d1, d2, d3] => { results := [.lit (.bool true)], args := [d1, d2, d3] }
  | _ => none }
def deviceCrashesRow : OpenClaim := { program := "ythokcfkcamcapaa", sum := "0fb4760085cc3027a5e65648c68d5d8cd89b18e26fad585c74aefd74d9e37df8", func := "graft/graftlaw19.DeviceCrashes", spec := "deviceCrashes", unfollowed := true, recurses := true, apart := false }
def DeviceCrashesSaid : Prop := deviceCrashesRow.holds Try.pinned (OpenSpec.ofChange deviceCrashesSpec)

/-- ITS FALSE NEIGHBOUR: 'it returns false'. Refute it at one input. -/
def deviceCrashesWrong : ChangeSpec := { name := "deviceCrashes", fn := fun _ => fun
  | [d1, d2, d3] => { results := [.lit (.bool false)], args := [d1, d2, d3] }
  | _ => none }
def DeviceCrashesWrongFalsely : Prop := deviceCrashesRow.holds Try.pinned (OpenSpec.ofChange deviceCrashesWrong)

/-- 'graftlaw19.DevicePlays': WHATEVER THE INPUT: true; the input reads as it did. -/
def devicePlaysSpec : ChangeSpec := { name := "devicePlays", fn := fun _ => fun
  | [d1, d2] => { results := [.lit (.bool true)], args := [d1, d2] }
  | _ => none }
def devicePlaysRow : OpenClaim := { program := "ythokcfkcamcapaa", sum := "0fb4760085cc3027a5e65648c68d5d8cd89b18e26fad585c74aefd74d9e37df8", func := "graft/graftlaw19.DevicePlays", spec := "devicePlays", unfollowed := true, recurses := true, apart := false }
def DevicePlaysSaid : Prop := devicePlaysRow.holds Try.pinned (OpenSpec.ofChange devicePlaysSpec)

/-- ITS FALSE NEIGHBOUR: 'it returns false'. Refute it at one input. -/
def devicePlaysWrong : ChangeSpec := { name := "devicePlays", fn := fun _ => fun
  | [d1, d2] => { results := [.lit (.bool false)], args := [d1, d2] }
  | _ => none }
def DevicePlaysWrongFalsely : Prop := devicePlaysRow.holds Try.pinned (OpenSpec.ofChange devicePlaysWrong)

/-- 'graftlaw19.DeviceKeeps': WHATEVER THE INPUT: true; the input reads as it did. -/
def deviceKeepsSpec : ChangeSpec := { name := "deviceKeeps", fn := fun _ => fun
  | [d1, d2] => { results := [.lit (.bool true)], args := [d1, d2] }
  | _ => none }
def deviceKeepsRow : OpenClaim := { program := "ythokcfkcamcapaa", sum := "0fb4760085cc3027a5e65648c68d5d8cd89b18e26fad585c74aefd74d9e37df8", func := "graft/graftlaw19.DeviceKeeps", spec := "deviceKeeps", unfollowed := true, recurses := true, apart := false }
def DeviceKeepsSaid : Prop := deviceKeepsRow.holds Try.pinned (OpenSpec.ofChange deviceKeepsSpec)

/-- ITS FALSE NEIGHBOUR: 'it returns false'. Refute it at one input. -/
def deviceKeepsWrong : ChangeSpec := { name := "deviceKeeps", fn := fun _ => fun
  | [d1, d2] => { results := [.lit (.bool false)], args := [d1, d2] }
  | _ => none }
def DeviceKeepsWrongFalsely : Prop := deviceKeepsRow.holds Try.pinned (OpenSpec.ofChange deviceKeepsWrong)

/- THE SECOND FORM. 'bulk': how many values and letters a reading holds, each counted each time it is reached (what is shared counts as often as it is met; a slice's spare places count too). A statement '..UptoSaid' is the law's where the arguments, and the package variables that the reading takes, are together of bulk at most 1048576: NARROWER than '..Said'. Prove '..Said' where nothing that the law and all that it calls make is longer than what came in: it says more and counts as full. Else prove '..UptoSaid'. A law counts once. -/
mutual
def uptoBulk {H : Type} : DataW H → Nat
  | .lit (.string bytes) => bytes.length + 1
  | .lit _ => 1
  | .nil => 1
  | .ptr d => uptoBulk d + 1
  | .slice elems spare => uptoBulkAll elems + uptoBulkAll spare + 1
  | .agg parts => uptoBulkAll parts + 1
  | .iface _ d => uptoBulk d + 1
  | .map entries => uptoBulkEntries entries + 1
  | .held _ => 1
def uptoBulkAll {H : Type} : List (DataW H) → Nat
  | [] => 0
  | d :: r => uptoBulk d + uptoBulkAll r
def uptoBulkEntries {H : Type} : List (Lit × DataW H) → Nat
  | [] => 0
  | x :: r => uptoBulkEntry x + uptoBulkEntries r
def uptoBulkEntry {H : Type} : Lit × DataW H → Nat
  | (.string bytes, d) => bytes.length + uptoBulk d + 1
  | (_, d) => uptoBulk d + 1
 end
def uptoSmall : (H : Type) → List (DataW H) → Bool := fun _ ds => decide (uptoBulkAll ds ≤ 1048576)
def OpenSpec.upto (s : _root_.Go.ChangeSpec) : _root_.Go.OpenSpec := { _root_.Go.OpenSpec.ofChange s with cond := some uptoSmall }

/-- 'graftlaw19.DeviceMakes', WHERE WHAT IT READS IS OF BULK AT MOST 1048576: true; the input reads as it did. -/
def deviceMakesUptoRow : OpenClaim := { program := "ythokcfkcamcapaa", sum := "0fb4760085cc3027a5e65648c68d5d8cd89b18e26fad585c74aefd74d9e37df8", func := "graft/graftlaw19.DeviceMakes", spec := "deviceMakes", unfollowed := true, recurses := true, apart := false, narrowed := true }
def DeviceMakesUptoSaid : Prop := deviceMakesUptoRow.holds Try.pinned (OpenSpec.upto deviceMakesSpec)

/-- 'graftlaw19.DeviceFlushes', WHERE WHAT IT READS IS OF BULK AT MOST 1048576: true; the input reads as it did. -/
def deviceFlushesUptoRow : OpenClaim := { program := "ythokcfkcamcapaa", sum := "0fb4760085cc3027a5e65648c68d5d8cd89b18e26fad585c74aefd74d9e37df8", func := "graft/graftlaw19.DeviceFlushes", spec := "deviceFlushes", unfollowed := true, recurses := true, apart := false, narrowed := true }
def DeviceFlushesUptoSaid : Prop := deviceFlushesUptoRow.holds Try.pinned (OpenSpec.upto deviceFlushesSpec)

/-- 'graftlaw19.DeviceCrashes', WHERE WHAT IT READS IS OF BULK AT MOST 1048576: true; the input reads as it did. -/
def deviceCrashesUptoRow : OpenClaim := { program := "ythokcfkcamcapaa", sum := "0fb4760085cc3027a5e65648c68d5d8cd89b18e26fad585c74aefd74d9e37df8", func := "graft/graftlaw19.DeviceCrashes", spec := "deviceCrashes", unfollowed := true, recurses := true, apart := false, narrowed := true }
def DeviceCrashesUptoSaid : Prop := deviceCrashesUptoRow.holds Try.pinned (OpenSpec.upto deviceCrashesSpec)

/-- 'graftlaw19.DevicePlays', WHERE WHAT IT READS IS OF BULK AT MOST 1048576: true; the input reads as it did. -/
def devicePlaysUptoRow : OpenClaim := { program := "ythokcfkcamcapaa", sum := "0fb4760085cc3027a5e65648c68d5d8cd89b18e26fad585c74aefd74d9e37df8", func := "graft/graftlaw19.DevicePlays", spec := "devicePlays", unfollowed := true, recurses := true, apart := false, narrowed := true }
def DevicePlaysUptoSaid : Prop := devicePlaysUptoRow.holds Try.pinned (OpenSpec.upto devicePlaysSpec)

/-- 'graftlaw19.DeviceKeeps', WHERE WHAT IT READS IS OF BULK AT MOST 1048576: true; the input reads as it did. -/
def deviceKeepsUptoRow : OpenClaim := { program := "ythokcfkcamcapaa", sum := "0fb4760085cc3027a5e65648c68d5d8cd89b18e26fad585c74aefd74d9e37df8", func := "graft/graftlaw19.DeviceKeeps", spec := "deviceKeeps", unfollowed := true, recurses := true, apart := false, narrowed := true }
def DeviceKeepsUptoSaid : Prop := deviceKeepsUptoRow.holds Try.pinned (OpenSpec.upto deviceKeepsSpec)

end Rows
end Go.Proofs.Ythokcfkcamcapaa
