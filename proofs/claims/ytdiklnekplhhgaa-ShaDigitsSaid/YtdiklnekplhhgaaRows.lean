/-
  No cell of these rows narrows 'for every input' (looked for: loops, veiled, ifaces, maps, wideKeys, modest, calm, conditions, laid).
  DERIVED. THE GIVEN ROWS OF THIS SEAT. 6 by the template 'for every input the law returns true; each argument reads behind the call as it read before'; 0 by the template 'total and deterministic' (their statements: YtdiklnekplhhgaaTotals.lean).
  GIVEN WITH THE SEED: the statements are not yours to turn. If you find one false, say at which input.
  Laid BY PROGRAM, IN A SANDBOX (cutbox-rows.mjs): the forced cells as the released guide's own fill.sh prints them over the translation 5986467d79653345… (all of the seat's roots in one cut). By AI agents, Wed Nov 11 2026. No macro, syntax, notation, axiom, sorry.
-/
import Derived.Test.YtdiklnekplhhgaaChecked
import GoSem.Claim
import GoSem.ClaimJoined
import GoSem.ClaimMapViews
import Derived.JoinedTies
import Derived.KernelRfl
namespace Go.Proofs.Ytdiklnekplhhgaa
/- THE CELL 'sum', in the pinned program and in every row, IS THE sha256 OF THE DUMP (.gsa) THAT YtdiklnekplhhgaaProg.lean LOADS. Nothing in Lean hashes anything: it is a label: what it is worth is what the hold of that sum in a sandbox is worth. -/
noncomputable def Try.pinned : Pinned := { name := "ytdiklnekplhhgaa", sum := "5986467d79653345534631eeae49f4c740f13ce9c1297997e8af54075c3643d2", checked := Try.checked }
namespace Rows
def none {H : Type} : Left H := { results := [], args := [] }

/-- 'graftlaw02.ShaDigests': WHATEVER THE INPUT: true; the input reads as it did. -/
def shaDigestsSpec : ChangeSpec := { name := "shaDigests", fn := fun _ => fun
  | [d] => { results := [.lit (.bool true)], args := [d] }
  | _ => none }
def shaDigestsRow : OpenClaim := { program := "ytdiklnekplhhgaa", sum := "5986467d79653345534631eeae49f4c740f13ce9c1297997e8af54075c3643d2", func := "graft/graftlaw02.ShaDigests", spec := "shaDigests", apart := false }
def ShaDigestsSaid : Prop := shaDigestsRow.holds Try.pinned (OpenSpec.ofChange shaDigestsSpec)

/-- ITS FALSE NEIGHBOUR: 'it returns false'. Refute it at one input. -/
def shaDigestsWrong : ChangeSpec := { name := "shaDigests", fn := fun _ => fun
  | [d] => { results := [.lit (.bool false)], args := [d] }
  | _ => none }
def ShaDigestsWrongFalsely : Prop := shaDigestsRow.holds Try.pinned (OpenSpec.ofChange shaDigestsWrong)

/-- 'graftlaw02.ShaLengths': WHATEVER THE INPUT: true; the input reads as it did. -/
def shaLengthsSpec : ChangeSpec := { name := "shaLengths", fn := fun _ => fun
  | [d1, d2] => { results := [.lit (.bool true)], args := [d1, d2] }
  | _ => none }
def shaLengthsRow : OpenClaim := { program := "ytdiklnekplhhgaa", sum := "5986467d79653345534631eeae49f4c740f13ce9c1297997e8af54075c3643d2", func := "graft/graftlaw02.ShaLengths", spec := "shaLengths", apart := false }
def ShaLengthsSaid : Prop := shaLengthsRow.holds Try.pinned (OpenSpec.ofChange shaLengthsSpec)

/-- ITS FALSE NEIGHBOUR: 'it returns false'. Refute it at one input. -/
def shaLengthsWrong : ChangeSpec := { name := "shaLengths", fn := fun _ => fun
  | [d1, d2] => { results := [.lit (.bool false)], args := [d1, d2] }
  | _ => none }
def ShaLengthsWrongFalsely : Prop := shaLengthsRow.holds Try.pinned (OpenSpec.ofChange shaLengthsWrong)

/-- 'graftlaw02.ShaParts': WHATEVER THE INPUT: true; the input reads as it did. -/
def shaPartsSpec : ChangeSpec := { name := "shaParts", fn := fun _ => fun
  | [d] => { results := [.lit (.bool true)], args := [d] }
  | _ => none }
def shaPartsRow : OpenClaim := { program := "ytdiklnekplhhgaa", sum := "5986467d79653345534631eeae49f4c740f13ce9c1297997e8af54075c3643d2", func := "graft/graftlaw02.ShaParts", spec := "shaParts", apart := false }
def ShaPartsSaid : Prop := shaPartsRow.holds Try.pinned (OpenSpec.ofChange shaPartsSpec)

/-- ITS FALSE NEIGHBOUR: 'it returns false'. Refute it at one input. -/
def shaPartsWrong : ChangeSpec := { name := "shaParts", fn := fun _ => fun
  | [d] => { results := [.lit (.bool false)], args := [d] }
  | _ => none }
def ShaPartsWrongFalsely : Prop := shaPartsRow.holds Try.pinned (OpenSpec.ofChange shaPartsWrong)

/-- 'graftlaw02.ShaClones': WHATEVER THE INPUT: true; the input reads as it did. -/
def shaClonesSpec : ChangeSpec := { name := "shaClones", fn := fun _ => fun
  | [d1, d2, d3] => { results := [.lit (.bool true)], args := [d1, d2, d3] }
  | _ => none }
def shaClonesRow : OpenClaim := { program := "ytdiklnekplhhgaa", sum := "5986467d79653345534631eeae49f4c740f13ce9c1297997e8af54075c3643d2", func := "graft/graftlaw02.ShaClones", spec := "shaClones", apart := false }
def ShaClonesSaid : Prop := shaClonesRow.holds Try.pinned (OpenSpec.ofChange shaClonesSpec)

/-- ITS FALSE NEIGHBOUR: 'it returns false'. Refute it at one input. -/
def shaClonesWrong : ChangeSpec := { name := "shaClones", fn := fun _ => fun
  | [d1, d2, d3] => { results := [.lit (.bool false)], args := [d1, d2, d3] }
  | _ => none }
def ShaClonesWrongFalsely : Prop := shaClonesRow.holds Try.pinned (OpenSpec.ofChange shaClonesWrong)

/-- 'graftlaw02.ShaNil': WHATEVER THE INPUT: true; the input reads as it did. -/
def shaNilSpec : ChangeSpec := { name := "shaNil", fn := fun _ => fun
  | [d] => { results := [.lit (.bool true)], args := [d] }
  | _ => none }
def shaNilRow : OpenClaim := { program := "ytdiklnekplhhgaa", sum := "5986467d79653345534631eeae49f4c740f13ce9c1297997e8af54075c3643d2", func := "graft/graftlaw02.ShaNil", spec := "shaNil", apart := false }
def ShaNilSaid : Prop := shaNilRow.holds Try.pinned (OpenSpec.ofChange shaNilSpec)

/-- ITS FALSE NEIGHBOUR: 'it returns false'. Refute it at one input. -/
def shaNilWrong : ChangeSpec := { name := "shaNil", fn := fun _ => fun
  | [d] => { results := [.lit (.bool false)], args := [d] }
  | _ => none }
def ShaNilWrongFalsely : Prop := shaNilRow.holds Try.pinned (OpenSpec.ofChange shaNilWrong)

/-- 'graftlaw02.ShaDigits': WHATEVER THE INPUT: true; the input reads as it did. -/
def shaDigitsSpec : ChangeSpec := { name := "shaDigits", fn := fun _ => fun
  | [d1, d2] => { results := [.lit (.bool true)], args := [d1, d2] }
  | _ => none }
def shaDigitsRow : OpenClaim := { program := "ytdiklnekplhhgaa", sum := "5986467d79653345534631eeae49f4c740f13ce9c1297997e8af54075c3643d2", func := "graft/graftlaw02.ShaDigits", spec := "shaDigits", apart := false }
def ShaDigitsSaid : Prop := shaDigitsRow.holds Try.pinned (OpenSpec.ofChange shaDigitsSpec)

/-- ITS FALSE NEIGHBOUR: 'it returns false'. Refute it at one input. -/
def shaDigitsWrong : ChangeSpec := { name := "shaDigits", fn := fun _ => fun
  | [d1, d2] => { results := [.lit (.bool false)], args := [d1, d2] }
  | _ => none }
def ShaDigitsWrongFalsely : Prop := shaDigitsRow.holds Try.pinned (OpenSpec.ofChange shaDigitsWrong)

/- THE SECOND FORM. 'bulk': how many values and letters a reading holds, each counted each time it is reached (what is shared counts as often as it is met; a slice's spare places count too). A statement '..UptoSaid' is the law's where the arguments, and the package variables that the reading takes, are together of bulk at most 1048576: NARROWER than '..Said'. Prove '..Said' where nothing that the law and all that it calls make is longer than what came in: it says more and counts as full. Else prove '..UptoSaid'. A law counts once. -/
mutual
def uptoBulk {H : Type} : DataW H → Nat
  | .lit (.string bytes) => bytes.length + 1
  | .lit _ => 1
  | .nil => 1
  | .ptr d => uptoBulk d + 1
  | .slice elems spare => uptoBulkAll elems + uptoBulkAll spare + 1
  | .agg parts => uptoBulkAll parts + 1
  | .iface _ d => uptoBulk d + 1
  | .map entries => uptoBulkEntries entries + 1
  | .held _ => 1
def uptoBulkAll {H : Type} : List (DataW H) → Nat
  | [] => 0
  | d :: r => uptoBulk d + uptoBulkAll r
def uptoBulkEntries {H : Type} : List (Lit × DataW H) → Nat
  | [] => 0
  | x :: r => uptoBulkEntry x + uptoBulkEntries r
def uptoBulkEntry {H : Type} : Lit × DataW H → Nat
  | (.string bytes, d) => bytes.length + uptoBulk d + 1
  | (_, d) => uptoBulk d + 1
 end
def uptoSmall : (H : Type) → List (DataW H) → Bool := fun _ ds => decide (uptoBulkAll ds ≤ 1048576)
def OpenSpec.upto (s : _root_.Go.ChangeSpec) : _root_.Go.OpenSpec := { _root_.Go.OpenSpec.ofChange s with cond := some uptoSmall }

/-- 'graftlaw02.ShaDigests', WHERE WHAT IT READS IS OF BULK AT MOST 1048576: true; the input reads as it did. -/
def shaDigestsUptoRow : OpenClaim := { program := "ytdiklnekplhhgaa", sum := "5986467d79653345534631eeae49f4c740f13ce9c1297997e8af54075c3643d2", func := "graft/graftlaw02.ShaDigests", spec := "shaDigests", apart := false, narrowed := true }
def ShaDigestsUptoSaid : Prop := shaDigestsUptoRow.holds Try.pinned (OpenSpec.upto shaDigestsSpec)

/-- 'graftlaw02.ShaLengths', WHERE WHAT IT READS IS OF BULK AT MOST 1048576: true; the input reads as it did. -/
def shaLengthsUptoRow : OpenClaim := { program := "ytdiklnekplhhgaa", sum := "5986467d79653345534631eeae49f4c740f13ce9c1297997e8af54075c3643d2", func := "graft/graftlaw02.ShaLengths", spec := "shaLengths", apart := false, narrowed := true }
def ShaLengthsUptoSaid : Prop := shaLengthsUptoRow.holds Try.pinned (OpenSpec.upto shaLengthsSpec)

/-- 'graftlaw02.ShaParts', WHERE WHAT IT READS IS OF BULK AT MOST 1048576: true; the input reads as it did. -/
def shaPartsUptoRow : OpenClaim := { program := "ytdiklnekplhhgaa", sum := "5986467d79653345534631eeae49f4c740f13ce9c1297997e8af54075c3643d2", func := "graft/graftlaw02.ShaParts", spec := "shaParts", apart := false, narrowed := true }
def ShaPartsUptoSaid : Prop := shaPartsUptoRow.holds Try.pinned (OpenSpec.upto shaPartsSpec)

/-- 'graftlaw02.ShaClones', WHERE WHAT IT READS IS OF BULK AT MOST 1048576: true; the input reads as it did. -/
def shaClonesUptoRow : OpenClaim := { program := "ytdiklnekplhhgaa", sum := "5986467d79653345534631eeae49f4c740f13ce9c1297997e8af54075c3643d2", func := "graft/graftlaw02.ShaClones", spec := "shaClones", apart := false, narrowed := true }
def ShaClonesUptoSaid : Prop := shaClonesUptoRow.holds Try.pinned (OpenSpec.upto shaClonesSpec)

/-- 'graftlaw02.ShaNil', WHERE WHAT IT READS IS OF BULK AT MOST 1048576: true; the input reads as it did. -/
def shaNilUptoRow : OpenClaim := { program := "ytdiklnekplhhgaa", sum := "5986467d79653345534631eeae49f4c740f13ce9c1297997e8af54075c3643d2", func := "graft/graftlaw02.ShaNil", spec := "shaNil", apart := false, narrowed := true }
def ShaNilUptoSaid : Prop := shaNilUptoRow.holds Try.pinned (OpenSpec.upto shaNilSpec)

/-- 'graftlaw02.ShaDigits', WHERE WHAT IT READS IS OF BULK AT MOST 1048576: true; the input reads as it did. -/
def shaDigitsUptoRow : OpenClaim := { program := "ytdiklnekplhhgaa", sum := "5986467d79653345534631eeae49f4c740f13ce9c1297997e8af54075c3643d2", func := "graft/graftlaw02.ShaDigits", spec := "shaDigits", apart := false, narrowed := true }
def ShaDigitsUptoSaid : Prop := shaDigitsUptoRow.holds Try.pinned (OpenSpec.upto shaDigitsSpec)

end Rows
end Go.Proofs.Ytdiklnekplhhgaa
