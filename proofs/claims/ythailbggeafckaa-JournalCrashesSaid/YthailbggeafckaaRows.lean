/-
  No cell of these rows narrows 'for every input' (looked for: loops, veiled, ifaces, maps, wideKeys, modest, calm, conditions, laid).
  DERIVED. THE GIVEN ROWS OF THIS SEAT. 4 by the template 'for every input the law returns true; each argument reads behind the call as it read before'; 0 by the template 'total and deterministic' (their statements: YthailbggeafckaaTotals.lean).
  GIVEN WITH THE SEED: the statements are not yours to turn. If you find one false, say at which input.
  Laid BY PROGRAM, IN A SANDBOX (cutbox-rows.mjs): the forced cells as the released guide's own fill.sh prints them over the translation e9bc880299fb7391… (all of the seat's roots in one cut). By AI agents, Wed Nov 11 2026. No macro, syntax, notation, axiom, sorry.
-/
import Derived.Test.YthailbggeafckaaChecked
import GoSem.Claim
import GoSem.ClaimJoined
import GoSem.ClaimMapViews
import Derived.JoinedTies
import Derived.KernelRfl
namespace Go.Proofs.Ythailbggeafckaa
/- THE CELL 'sum', in the pinned program and in every row, IS THE sha256 OF THE DUMP (.gsa) THAT YthailbggeafckaaProg.lean LOADS. Nothing in Lean hashes anything: it is a label: what it is worth is what the hold of that sum in a sandbox is worth. -/
noncomputable def Try.pinned : Pinned := { name := "ythailbggeafckaa", sum := "e9bc880299fb73914710bce48b8325c0086b5bbfeea0408420c090c962752f1e", checked := Try.checked }
namespace Rows
def none {H : Type} : Left H := { results := [], args := [] }

/-- 'graftlaw22.JournalSlots': WHATEVER THE INPUT: true; the input reads as it did. -/
def journalSlotsSpec : ChangeSpec := { name := "journalSlots", fn := fun _ => fun
  | [d1, d2] => { results := [.lit (.bool true)], args := [d1, d2] }
  | _ => none }
def journalSlotsRow : OpenClaim := { program := "ythailbggeafckaa", sum := "e9bc880299fb73914710bce48b8325c0086b5bbfeea0408420c090c962752f1e", func := "graft/graftlaw22.JournalSlots", spec := "journalSlots", unfollowed := true, recurses := true, apart := false }
def JournalSlotsSaid : Prop := journalSlotsRow.holds Try.pinned (OpenSpec.ofChange journalSlotsSpec)

/-- ITS FALSE NEIGHBOUR: 'it returns false'. Refute it at one input. -/
def journalSlotsWrong : ChangeSpec := { name := "journalSlots", fn := fun _ => fun
  | [d1, d2] => { results := [.lit (.bool false)], args := [d1, d2] }
  | _ => none }
def JournalSlotsWrongFalsely : Prop := journalSlotsRow.holds Try.pinned (OpenSpec.ofChange journalSlotsWrong)

/-- 'graftlaw22.JournalNil': WHATEVER THE INPUT: true; the input reads as it did. -/
def journalNilSpec : ChangeSpec := { name := "journalNil", fn := fun _ => fun
  | [d1, d2] => { results := [.lit (.bool true)], args := [d1, d2] }
  | _ => none }
def journalNilRow : OpenClaim := { program := "ythailbggeafckaa", sum := "e9bc880299fb73914710bce48b8325c0086b5bbfeea0408420c090c962752f1e", func := "graft/graftlaw22.JournalNil", spec := "journalNil", unfollowed := true, recurses := true, apart := false }
def JournalNilSaid : Prop := journalNilRow.holds Try.pinned (OpenSpec.ofChange journalNilSpec)

/-- ITS FALSE NEIGHBOUR: 'it returns false'. Refute it at one input. -/
def journalNilWrong : ChangeSpec := { name := "journalNil", fn := fun _ => fun
  | [d1, d2] => { results := [.lit (.bool false)], args := [d1, d2] }
  | _ => none }
def JournalNilWrongFalsely : Prop := journalNilRow.holds Try.pinned (OpenSpec.ofChange journalNilWrong)

/-- 'graftlaw22.JournalFormats': WHATEVER THE INPUT: true; the input reads as it did. -/
def journalFormatsSpec : ChangeSpec := { name := "journalFormats", fn := fun _ => fun
  | [d] => { results := [.lit (.bool true)], args := [d] }
  | _ => none }
def journalFormatsRow : OpenClaim := { program := "ythailbggeafckaa", sum := "e9bc880299fb73914710bce48b8325c0086b5bbfeea0408420c090c962752f1e", func := "graft/graftlaw22.JournalFormats", spec := "journalFormats", unfollowed := true, recurses := true, apart := false }
def JournalFormatsSaid : Prop := journalFormatsRow.holds Try.pinned (OpenSpec.ofChange journalFormatsSpec)

/-- ITS FALSE NEIGHBOUR: 'it returns false'. Refute it at one input. -/
def journalFormatsWrong : ChangeSpec := { name := "journalFormats", fn := fun _ => fun
  | [d] => { results := [.lit (.bool false)], args := [d] }
  | _ => none }
def JournalFormatsWrongFalsely : Prop := journalFormatsRow.holds Try.pinned (OpenSpec.ofChange journalFormatsWrong)

/-- 'graftlaw22.JournalCrashes': WHATEVER THE INPUT: true; the input reads as it did. -/
def journalCrashesSpec : ChangeSpec := { name := "journalCrashes", fn := fun _ => fun
  | [d1, d2, d3] => { results := [.lit (.bool true)], args := [d1, d2, d3] }
  | _ => none }
def journalCrashesRow : OpenClaim := { program := "ythailbggeafckaa", sum := "e9bc880299fb73914710bce48b8325c0086b5bbfeea0408420c090c962752f1e", func := "graft/graftlaw22.JournalCrashes", spec := "journalCrashes", unfollowed := true, recurses := true, apart := false }
def JournalCrashesSaid : Prop := journalCrashesRow.holds Try.pinned (OpenSpec.ofChange journalCrashesSpec)

/-- ITS FALSE NEIGHBOUR: 'it returns false'. Refute it at one input. -/
def journalCrashesWrong : ChangeSpec := { name := "journalCrashes", fn := fun _ => fun
  | [d1, d2, d3] => { results := [.lit (.bool false)], args := [d1, d2, d3] }
  | _ => none }
def JournalCrashesWrongFalsely : Prop := journalCrashesRow.holds Try.pinned (OpenSpec.ofChange journalCrashesWrong)

/- THE SECOND FORM. 'bulk': how many values and letters a reading holds, each counted each time it is reached (what is shared counts as often as it is met; a slice's spare places count too). A statement '..UptoSaid' is the law's where the arguments, and the package variables that the reading takes, are together of bulk at most 1048576: NARROWER than '..Said'. Prove '..Said' where nothing that the law and all that it calls make is longer than what came in: it says more and counts as full. Else prove '..UptoSaid'. A law counts once. -/
mutual
def uptoBulk {H : Type} : DataW H → Nat
  | .lit (.string bytes) => bytes.length + 1
  | .lit _ => 1
  | .nil => 1
  | .ptr d => uptoBulk d + 1
  | .slice elems spare => uptoBulkAll elems + uptoBulkAll spare + 1
  | .agg parts => uptoBulkAll parts + 1
  | .iface _ d => uptoBulk d + 1
  | .map entries => uptoBulkEntries entries + 1
  | .held _ => 1
def uptoBulkAll {H : Type} : List (DataW H) → Nat
  | [] => 0
  | d :: r => uptoBulk d + uptoBulkAll r
def uptoBulkEntries {H : Type} : List (Lit × DataW H) → Nat
  | [] => 0
  | x :: r => uptoBulkEntry x + uptoBulkEntries r
def uptoBulkEntry {H : Type} : Lit × DataW H → Nat
  | (.string bytes, d) => bytes.length + uptoBulk d + 1
  | (_, d) => uptoBulk d + 1
 end
def uptoSmall : (H : Type) → List (DataW H) → Bool := fun _ ds => decide (uptoBulkAll ds ≤ 1048576)
def OpenSpec.upto (s : _root_.Go.ChangeSpec) : _root_.Go.OpenSpec := { _root_.Go.OpenSpec.ofChange s with cond := some uptoSmall }

/-- 'graftlaw22.JournalSlots', WHERE WHAT IT READS IS OF BULK AT MOST 1048576: true; the input reads as it did. -/
def journalSlotsUptoRow : OpenClaim := { program := "ythailbggeafckaa", sum := "e9bc880299fb73914710bce48b8325c0086b5bbfeea0408420c090c962752f1e", func := "graft/graftlaw22.JournalSlots", spec := "journalSlots", unfollowed := true, recurses := true, apart := false, narrowed := true }
def JournalSlotsUptoSaid : Prop := journalSlotsUptoRow.holds Try.pinned (OpenSpec.upto journalSlotsSpec)

/-- 'graftlaw22.JournalNil', WHERE WHAT IT READS IS OF BULK AT MOST 1048576: true; the input reads as it did. -/
def journalNilUptoRow : OpenClaim := { program := "ythailbggeafckaa", sum := "e9bc880299fb73914710bce48b8325c0086b5bbfeea0408420c090c962752f1e", func := "graft/graftlaw22.JournalNil", spec := "journalNil", unfollowed := true, recurses := true, apart := false, narrowed := true }
def JournalNilUptoSaid : Prop := journalNilUptoRow.holds Try.pinned (OpenSpec.upto journalNilSpec)

/-- 'graftlaw22.JournalFormats', WHERE WHAT IT READS IS OF BULK AT MOST 1048576: true; the input reads as it did. -/
def journalFormatsUptoRow : OpenClaim := { program := "ythailbggeafckaa", sum := "e9bc880299fb73914710bce48b8325c0086b5bbfeea0408420c090c962752f1e", func := "graft/graftlaw22.JournalFormats", spec := "journalFormats", unfollowed := true, recurses := true, apart := false, narrowed := true }
def JournalFormatsUptoSaid : Prop := journalFormatsUptoRow.holds Try.pinned (OpenSpec.upto journalFormatsSpec)

/-- 'graftlaw22.JournalCrashes', WHERE WHAT IT READS IS OF BULK AT MOST 1048576: true; the input reads as it did. -/
def journalCrashesUptoRow : OpenClaim := { program := "ythailbggeafckaa", sum := "e9bc880299fb73914710bce48b8325c0086b5bbfeea0408420c090c962752f1e", func := "graft/graftlaw22.JournalCrashes", spec := "journalCrashes", unfollowed := true, recurses := true, apart := false, narrowed := true }
def JournalCrashesUptoSaid : Prop := journalCrashesUptoRow.holds Try.pinned (OpenSpec.upto journalCrashesSpec)

end Rows
end Go.Proofs.Ythailbggeafckaa
