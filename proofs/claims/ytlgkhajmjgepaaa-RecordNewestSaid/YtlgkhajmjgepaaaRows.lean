/-
  No cell of these rows narrows 'for every input' (looked for: loops, veiled, ifaces, maps, wideKeys, modest, calm, conditions, laid).
  DERIVED. THE GIVEN ROWS OF THIS SEAT. 5 by the template 'for every input the law returns true; each argument reads behind the call as it read before'; 0 by the template 'total and deterministic' (their statements: YtlgkhajmjgepaaaTotals.lean).
  GIVEN WITH THE SEED: the statements are not yours to turn. If you find one false, say at which input.
  Laid BY PROGRAM, IN A SANDBOX (cutbox-rows.mjs): the forced cells as the released guide's own fill.sh prints them over the translation c805171d07a83093… (all of the seat's roots in one cut). By AI agents, Wed Nov 11 2026. No macro, syntax, notation, axiom, sorry.
-/
import Derived.Test.YtlgkhajmjgepaaaChecked
import GoSem.Claim
import GoSem.ClaimJoined
import GoSem.ClaimMapViews
import Derived.JoinedTies
import Derived.KernelRfl
namespace Go.Proofs.Ytlgkhajmjgepaaa
/- THE CELL 'sum', in the pinned program and in every row, IS THE sha256 OF THE DUMP (.gsa) THAT YtlgkhajmjgepaaaProg.lean LOADS. Nothing in Lean hashes anything: it is a label: what it is worth is what the hold of that sum in a sandbox is worth. -/
noncomputable def Try.pinned : Pinned := { name := "ytlgkhajmjgepaaa", sum := "c805171d07a83093142a4da0f4632becb5a5a23358e3c176c32642860cb2760e", checked := Try.checked }
namespace Rows
def none {H : Type} : Left H := { results := [], args := [] }

/-- 'graftlaw21.RecordInverse': WHATEVER THE INPUT: true; the input reads as it did. -/
def recordInverseSpec : ChangeSpec := { name := "recordInverse", fn := fun _ => fun
  | [d1, d2] => { results := [.lit (.bool true)], args := [d1, d2] }
  | _ => none }
def recordInverseRow : OpenClaim := { program := "ytlgkhajmjgepaaa", sum := "c805171d07a83093142a4da0f4632becb5a5a23358e3c176c32642860cb2760e", func := "graft/graftlaw21.RecordInverse", spec := "recordInverse", unfollowed := true, recurses := true, apart := false }
def RecordInverseSaid : Prop := recordInverseRow.holds Try.pinned (OpenSpec.ofChange recordInverseSpec)

/-- ITS FALSE NEIGHBOUR: 'it returns false'. Refute it at one input. -/
def recordInverseWrong : ChangeSpec := { name := "recordInverse", fn := fun _ => fun
  | [d1, d2] => { results := [.lit (.bool false)], args := [d1, d2] }
  | _ => none }
def RecordInverseWrongFalsely : Prop := recordInverseRow.holds Try.pinned (OpenSpec.ofChange recordInverseWrong)

/-- 'graftlaw21.RecordSpoils': WHATEVER THE INPUT: true; the input reads as it did. -/
def recordSpoilsSpec : ChangeSpec := { name := "recordSpoils", fn := fun _ => fun
  | [d1, d2] => { results := [.lit (.bool true)], args := [d1, d2] }
  | _ => none }
def recordSpoilsRow : OpenClaim := { program := "ytlgkhajmjgepaaa", sum := "c805171d07a83093142a4da0f4632becb5a5a23358e3c176c32642860cb2760e", func := "graft/graftlaw21.RecordSpoils", spec := "recordSpoils", unfollowed := true, recurses := true, apart := false }
def RecordSpoilsSaid : Prop := recordSpoilsRow.holds Try.pinned (OpenSpec.ofChange recordSpoilsSpec)

/-- ITS FALSE NEIGHBOUR: 'it returns false'. Refute it at one input. -/
def recordSpoilsWrong : ChangeSpec := { name := "recordSpoils", fn := fun _ => fun
  | [d1, d2] => { results := [.lit (.bool false)], args := [d1, d2] }
  | _ => none }
def RecordSpoilsWrongFalsely : Prop := recordSpoilsRow.holds Try.pinned (OpenSpec.ofChange recordSpoilsWrong)

/-- 'graftlaw21.RecordSame': WHATEVER THE INPUT: true; the input reads as it did. -/
def recordSameSpec : ChangeSpec := { name := "recordSame", fn := fun _ => fun
  | [d1, d2, d3] => { results := [.lit (.bool true)], args := [d1, d2, d3] }
  | _ => none }
def recordSameRow : OpenClaim := { program := "ytlgkhajmjgepaaa", sum := "c805171d07a83093142a4da0f4632becb5a5a23358e3c176c32642860cb2760e", func := "graft/graftlaw21.RecordSame", spec := "recordSame", unfollowed := true, recurses := true, apart := false }
def RecordSameSaid : Prop := recordSameRow.holds Try.pinned (OpenSpec.ofChange recordSameSpec)

/-- ITS FALSE NEIGHBOUR: 'it returns false'. Refute it at one input. -/
def recordSameWrong : ChangeSpec := { name := "recordSame", fn := fun _ => fun
  | [d1, d2, d3] => { results := [.lit (.bool false)], args := [d1, d2, d3] }
  | _ => none }
def RecordSameWrongFalsely : Prop := recordSameRow.holds Try.pinned (OpenSpec.ofChange recordSameWrong)

/-- 'graftlaw21.RecordEncodes': WHATEVER THE INPUT: true; the input reads as it did. -/
def recordEncodesSpec : ChangeSpec := { name := "recordEncodes", fn := fun _ => fun
  | [d] => { results := [.lit (.bool true)], args := [d] }
  | _ => none }
def recordEncodesRow : OpenClaim := { program := "ytlgkhajmjgepaaa", sum := "c805171d07a83093142a4da0f4632becb5a5a23358e3c176c32642860cb2760e", func := "graft/graftlaw21.RecordEncodes", spec := "recordEncodes", unfollowed := true, recurses := true, apart := false }
def RecordEncodesSaid : Prop := recordEncodesRow.holds Try.pinned (OpenSpec.ofChange recordEncodesSpec)

/-- ITS FALSE NEIGHBOUR: 'it returns false'. Refute it at one input. -/
def recordEncodesWrong : ChangeSpec := { name := "recordEncodes", fn := fun _ => fun
  | [d] => { results := [.lit (.bool false)], args := [d] }
  | _ => none }
def RecordEncodesWrongFalsely : Prop := recordEncodesRow.holds Try.pinned (OpenSpec.ofChange recordEncodesWrong)

/-- 'graftlaw21.RecordNewest': WHATEVER THE INPUT: true; the input reads as it did. -/
def recordNewestSpec : ChangeSpec := { name := "recordNewest", fn := fun _ => fun
  | [d1, d2] => { results := [.lit (.bool true)], args := [d1, d2] }
  | _ => none }
def recordNewestRow : OpenClaim := { program := "ytlgkhajmjgepaaa", sum := "c805171d07a83093142a4da0f4632becb5a5a23358e3c176c32642860cb2760e", func := "graft/graftlaw21.RecordNewest", spec := "recordNewest", unfollowed := true, recurses := true, apart := false }
def RecordNewestSaid : Prop := recordNewestRow.holds Try.pinned (OpenSpec.ofChange recordNewestSpec)

/-- ITS FALSE NEIGHBOUR: 'it returns false'. Refute it at one input. -/
def recordNewestWrong : ChangeSpec := { name := "recordNewest", fn := fun _ => fun
  | [d1, d2] => { results := [.lit (.bool false)], args := [d1, d2] }
  | _ => none }
def RecordNewestWrongFalsely : Prop := recordNewestRow.holds Try.pinned (OpenSpec.ofChange recordNewestWrong)

/- THE SECOND FORM. 'bulk': how many values and letters a reading holds, each counted each time it is reached (what is shared counts as often as it is met; a slice's spare places count too). A statement '..UptoSaid' is the law's where the arguments, and the package variables that the reading takes, are together of bulk at most 1048576: NARROWER than '..Said'. Prove '..Said' where nothing that the law and all that it calls make is longer than what came in: it says more and counts as full. Else prove '..UptoSaid'. A law counts once. -/
mutual
def uptoBulk {H : Type} : DataW H → Nat
  | .lit (.string bytes) => bytes.length + 1
  | .lit _ => 1
  | .nil => 1
  | .ptr d => uptoBulk d + 1
  | .slice elems spare => uptoBulkAll elems + uptoBulkAll spare + 1
  | .agg parts => uptoBulkAll parts + 1
  | .iface _ d => uptoBulk d + 1
  | .map entries => uptoBulkEntries entries + 1
  | .held _ => 1
def uptoBulkAll {H : Type} : List (DataW H) → Nat
  | [] => 0
  | d :: r => uptoBulk d + uptoBulkAll r
def uptoBulkEntries {H : Type} : List (Lit × DataW H) → Nat
  | [] => 0
  | x :: r => uptoBulkEntry x + uptoBulkEntries r
def uptoBulkEntry {H : Type} : Lit × DataW H → Nat
  | (.string bytes, d) => bytes.length + uptoBulk d + 1
  | (_, d) => uptoBulk d + 1
 end
def uptoSmall : (H : Type) → List (DataW H) → Bool := fun _ ds => decide (uptoBulkAll ds ≤ 1048576)
def OpenSpec.upto (s : _root_.Go.ChangeSpec) : _root_.Go.OpenSpec := { _root_.Go.OpenSpec.ofChange s with cond := some uptoSmall }

/-- 'graftlaw21.RecordInverse', WHERE WHAT IT READS IS OF BULK AT MOST 1048576: true; the input reads as it did. -/
def recordInverseUptoRow : OpenClaim := { program := "ytlgkhajmjgepaaa", sum := "c805171d07a83093142a4da0f4632becb5a5a23358e3c176c32642860cb2760e", func := "graft/graftlaw21.RecordInverse", spec := "recordInverse", unfollowed := true, recurses := true, apart := false, narrowed := true }
def RecordInverseUptoSaid : Prop := recordInverseUptoRow.holds Try.pinned (OpenSpec.upto recordInverseSpec)

/-- 'graftlaw21.RecordSpoils', WHERE WHAT IT READS IS OF BULK AT MOST 1048576: true; the input reads as it did. -/
def recordSpoilsUptoRow : OpenClaim := { program := "ytlgkhajmjgepaaa", sum := "c805171d07a83093142a4da0f4632becb5a5a23358e3c176c32642860cb2760e", func := "graft/graftlaw21.RecordSpoils", spec := "recordSpoils", unfollowed := true, recurses := true, apart := false, narrowed := true }
def RecordSpoilsUptoSaid : Prop := recordSpoilsUptoRow.holds Try.pinned (OpenSpec.upto recordSpoilsSpec)

/-- 'graftlaw21.RecordSame', WHERE WHAT IT READS IS OF BULK AT MOST 1048576: true; the input reads as it did. -/
def recordSameUptoRow : OpenClaim := { program := "ytlgkhajmjgepaaa", sum := "c805171d07a83093142a4da0f4632becb5a5a23358e3c176c32642860cb2760e", func := "graft/graftlaw21.RecordSame", spec := "recordSame", unfollowed := true, recurses := true, apart := false, narrowed := true }
def RecordSameUptoSaid : Prop := recordSameUptoRow.holds Try.pinned (OpenSpec.upto recordSameSpec)

/-- 'graftlaw21.RecordEncodes', WHERE WHAT IT READS IS OF BULK AT MOST 1048576: true; the input reads as it did. -/
def recordEncodesUptoRow : OpenClaim := { program := "ytlgkhajmjgepaaa", sum := "c805171d07a83093142a4da0f4632becb5a5a23358e3c176c32642860cb2760e", func := "graft/graftlaw21.RecordEncodes", spec := "recordEncodes", unfollowed := true, recurses := true, apart := false, narrowed := true }
def RecordEncodesUptoSaid : Prop := recordEncodesUptoRow.holds Try.pinned (OpenSpec.upto recordEncodesSpec)

/-- 'graftlaw21.RecordNewest', WHERE WHAT IT READS IS OF BULK AT MOST 1048576: true; the input reads as it did. -/
def recordNewestUptoRow : OpenClaim := { program := "ytlgkhajmjgepaaa", sum := "c805171d07a83093142a4da0f4632becb5a5a23358e3c176c32642860cb2760e", func := "graft/graftlaw21.RecordNewest", spec := "recordNewest", unfollowed := true, recurses := true, apart := false, narrowed := true }
def RecordNewestUptoSaid : Prop := recordNewestUptoRow.holds Try.pinned (OpenSpec.upto recordNewestSpec)

end Rows
end Go.Proofs.Ytlgkhajmjgepaaa
