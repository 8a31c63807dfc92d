/-
  No cell of these rows narrows 'for every input' (looked for: loops, veiled, ifaces, maps, wideKeys, modest, calm, conditions, laid).
  DERIVED. THE GIVEN ROWS OF THIS SEAT. 6 by the template 'for every input the law returns true; each argument reads behind the call as it read before'; 0 by the template 'total and deterministic' (their statements: YtcngaknlagocdaaTotals.lean).
  GIVEN WITH THE SEED: the statements are not yours to turn. If you find one false, say at which input.
  Laid BY PROGRAM, IN A SANDBOX (cutbox-rows.mjs): the forced cells as the released guide's own fill.sh prints them over the translation fdfd7d125809e874… (all of the seat's roots in one cut). By AI agents, Wed Nov 11 2026. No macro, syntax, notation, axiom, sorry.
-/
import Derived.Test.YtcngaknlagocdaaChecked
import GoSem.Claim
import GoSem.ClaimJoined
import GoSem.ClaimMapViews
import Derived.JoinedTies
import Derived.KernelRfl
namespace Go.Proofs.Ytcngaknlagocdaa
/- THE CELL 'sum', in the pinned program and in every row, IS THE sha256 OF THE DUMP (.gsa) THAT YtcngaknlagocdaaProg.lean LOADS. Nothing in Lean hashes anything: it is a label: what it is worth is what the hold of that sum in a sandbox is worth. -/
noncomputable def Try.pinned : Pinned := { name := "ytcngaknlagocdaa", sum := "fdfd7d125809e874d34328a3d54ea64476f5f4019d917146549b05f70850cd1b", checked := Try.checked }
namespace Rows
def none {H : Type} : Left H := { results := [], args := [] }

/-- 'graftlaw17.ChunkSplits': WHATEVER THE INPUT: true; the input reads as it did. -/
def chunkSplitsSpec : ChangeSpec := { name := "chunkSplits", fn := fun _ => fun
  | [d1, d2] => { results := [.lit (.bool true)], args := [d1, d2] }
  | _ => none }
def chunkSplitsRow : OpenClaim := { program := "ytcngaknlagocdaa", sum := "fdfd7d125809e874d34328a3d54ea64476f5f4019d917146549b05f70850cd1b", func := "graft/graftlaw17.ChunkSplits", spec := "chunkSplits", unfollowed := true, recurses := true, apart := false }
def ChunkSplitsSaid : Prop := chunkSplitsRow.holds Try.pinned (OpenSpec.ofChange chunkSplitsSpec)

/-- ITS FALSE NEIGHBOUR: 'it returns false'. Refute it at one input. -/
def chunkSplitsWrong : ChangeSpec := { name := "chunkSplits", fn := fun _ => fun
  | [d1, d2] => { results := [.lit (.bool false)], args := [d1, d2] }
  | _ => none }
def ChunkSplitsWrongFalsely : Prop := chunkSplitsRow.holds Try.pinned (OpenSpec.ofChange chunkSplitsWrong)

/-- 'graftlaw17.ChunkBounds': WHATEVER THE INPUT: true; the input reads as it did. -/
def chunkBoundsSpec : ChangeSpec := { name := "chunkBounds", fn := fun _ => fun
  | [d1, d2] => { results := [.lit (.bool true)], args := [d1, d2] }
  | _ => none }
def chunkBoundsRow : OpenClaim := { program := "ytcngaknlagocdaa", sum := "fdfd7d125809e874d34328a3d54ea64476f5f4019d917146549b05f70850cd1b", func := "graft/graftlaw17.ChunkBounds", spec := "chunkBounds", unfollowed := true, recurses := true, apart := false }
def ChunkBoundsSaid : Prop := chunkBoundsRow.holds Try.pinned (OpenSpec.ofChange chunkBoundsSpec)

/-- ITS FALSE NEIGHBOUR: 'it returns false'. Refute it at one input. -/
def chunkBoundsWrong : ChangeSpec := { name := "chunkBounds", fn := fun _ => fun
  | [d1, d2] => { results := [.lit (.bool false)], args := [d1, d2] }
  | _ => none }
def ChunkBoundsWrongFalsely : Prop := chunkBoundsRow.holds Try.pinned (OpenSpec.ofChange chunkBoundsWrong)

/-- 'graftlaw17.ChunkLists': WHATEVER THE INPUT: true; the input reads as it did. -/
def chunkListsSpec : ChangeSpec := { name := "chunkLists", fn := fun _ => fun
  | [d1, d2] => { results := [.lit (.bool true)], args := [d1, d2] }
  | _ => none }
def chunkListsRow : OpenClaim := { program := "ytcngaknlagocdaa", sum := "fdfd7d125809e874d34328a3d54ea64476f5f4019d917146549b05f70850cd1b", func := "graft/graftlaw17.ChunkLists", spec := "chunkLists", unfollowed := true, recurses := true, apart := false }
def ChunkListsSaid : Prop := chunkListsRow.holds Try.pinned (OpenSpec.ofChange chunkListsSpec)

/-- ITS FALSE NEIGHBOUR: 'it returns false'. Refute it at one input. -/
def chunkListsWrong : ChangeSpec := { name := "chunkLists", fn := fun _ => fun
  | [d1, d2] => { results := [.lit (.bool false)], args := [d1, d2] }
  | _ => none }
def ChunkListsWrongFalsely : Prop := chunkListsRow.holds Try.pinned (OpenSpec.ofChange chunkListsWrong)

/-- 'graftlaw17.ChunkAt': WHATEVER THE INPUT: true; the input reads as it did. -/
def chunkAtSpec : ChangeSpec := { name := "chunkAt", fn := fun _ => fun
  | [d1, d2, d3] => { results := [.lit (.bool true)], args := [d1, d2, d3] }
  | _ => none }
def chunkAtRow : OpenClaim := { program := "ytcngaknlagocdaa", sum := "fdfd7d125809e874d34328a3d54ea64476f5f4019d917146549b05f70850cd1b", func := "graft/graftlaw17.ChunkAt", spec := "chunkAt", unfollowed := true, recurses := true, apart := false }
def ChunkAtSaid : Prop := chunkAtRow.holds Try.pinned (OpenSpec.ofChange chunkAtSpec)

/-- ITS FALSE NEIGHBOUR: 'it returns false'. Refute it at one input. -/
def chunkAtWrong : ChangeSpec := { name := "chunkAt", fn := fun _ => fun
  | [d1, d2, d3] => { results := [.lit (.bool false)], args := [d1, d2, d3] }
  | _ => none }
def ChunkAtWrongFalsely : Prop := chunkAtRow.holds Try.pinned (OpenSpec.ofChange chunkAtWrong)

/-- 'graftlaw17.ChunkSafe': WHATEVER THE INPUT: true; the input reads as it did. -/
def chunkSafeSpec : ChangeSpec := { name := "chunkSafe", fn := fun _ => fun
  | [d1, d2, d3] => { results := [.lit (.bool true)], args := [d1, d2, d3] }
  | _ => none }
def chunkSafeRow : OpenClaim := { program := "ytcngaknlagocdaa", sum := "fdfd7d125809e874d34328a3d54ea64476f5f4019d917146549b05f70850cd1b", func := "graft/graftlaw17.ChunkSafe", spec := "chunkSafe", unfollowed := true, recurses := true, apart := false }
def ChunkSafeSaid : Prop := chunkSafeRow.holds Try.pinned (OpenSpec.ofChange chunkSafeSpec)

/-- ITS FALSE NEIGHBOUR: 'it returns false'. Refute it at one input. -/
def chunkSafeWrong : ChangeSpec := { name := "chunkSafe", fn := fun _ => fun
  | [d1, d2, d3] => { results := [.lit (.bool false)], args := [d1, d2, d3] }
  | _ => none }
def ChunkSafeWrongFalsely : Prop := chunkSafeRow.holds Try.pinned (OpenSpec.ofChange chunkSafeWrong)

/-- 'graftlaw17.ChunkExecutes': WHATEVER THE INPUT: true; the input reads as it did. -/
def chunkExecutesSpec : ChangeSpec := { name := "chunkExecutes", fn := fun _ => fun
  | [d1, d2, d3] => { results := [.lit (.bool true)], args := [d1, d2, d3] }
  | _ => none }
def chunkExecutesRow : OpenClaim := { program := "ytcngaknlagocdaa", sum := "fdfd7d125809e874d34328a3d54ea64476f5f4019d917146549b05f70850cd1b", func := "graft/graftlaw17.ChunkExecutes", spec := "chunkExecutes", unfollowed := true, recurses := true, apart := false }
def ChunkExecutesSaid : Prop := chunkExecutesRow.holds Try.pinned (OpenSpec.ofChange chunkExecutesSpec)

/-- ITS FALSE NEIGHBOUR: 'it returns false'. Refute it at one input. -/
def chunkExecutesWrong : ChangeSpec := { name := "chunkExecutes", fn := fun _ => fun
  | [d1, d2, d3] => { results := [.lit (.bool false)], args := [d1, d2, d3] }
  | _ => none }
def ChunkExecutesWrongFalsely : Prop := chunkExecutesRow.holds Try.pinned (OpenSpec.ofChange chunkExecutesWrong)

/- THE SECOND FORM. 'bulk': how many values and letters a reading holds, each counted each time it is reached (what is shared counts as often as it is met; a slice's spare places count too). A statement '..UptoSaid' is the law's where the arguments, and the package variables that the reading takes, are together of bulk at most 1048576: NARROWER than '..Said'. Prove '..Said' where nothing that the law and all that it calls make is longer than what came in: it says more and counts as full. Else prove '..UptoSaid'. A law counts once. -/
mutual
def uptoBulk {H : Type} : DataW H → Nat
  | .lit (.string bytes) => bytes.length + 1
  | .lit _ => 1
  | .nil => 1
  | .ptr d => uptoBulk d + 1
  | .slice elems spare => uptoBulkAll elems + uptoBulkAll spare + 1
  | .agg parts => uptoBulkAll parts + 1
  | .iface _ d => uptoBulk d + 1
  | .map entries => uptoBulkEntries entries + 1
  | .held _ => 1
def uptoBulkAll {H : Type} : List (DataW H) → Nat
  | [] => 0
  | d :: r => uptoBulk d + uptoBulkAll r
def uptoBulkEntries {H : Type} : List (Lit × DataW H) → Nat
  | [] => 0
  | x :: r => uptoBulkEntry x + uptoBulkEntries r
def uptoBulkEntry {H : Type} : Lit × DataW H → Nat
  | (.string bytes, d) => bytes.length + uptoBulk d + 1
  | (_, d) => uptoBulk d + 1
 end
def uptoSmall : (H : Type) → List (DataW H) → Bool := fun _ ds => decide (uptoBulkAll ds ≤ 1048576)
def OpenSpec.upto (s : _root_.Go.ChangeSpec) : _root_.Go.OpenSpec := { _root_.Go.OpenSpec.ofChange s with cond := some uptoSmall }

/-- 'graftlaw17.ChunkSplits', WHERE WHAT IT READS IS OF BULK AT MOST 1048576: true; the input reads as it did. -/
def chunkSplitsUptoRow : OpenClaim := { program := "ytcngaknlagocdaa", sum := "fdfd7d125809e874d34328a3d54ea64476f5f4019d917146549b05f70850cd1b", func := "graft/graftlaw17.ChunkSplits", spec := "chunkSplits", unfollowed := true, recurses := true, apart := false, narrowed := true }
def ChunkSplitsUptoSaid : Prop := chunkSplitsUptoRow.holds Try.pinned (OpenSpec.upto chunkSplitsSpec)

/-- 'graftlaw17.ChunkBounds', WHERE WHAT IT READS IS OF BULK AT MOST 1048576: true; the input reads as it did. -/
def chunkBoundsUptoRow : OpenClaim := { program := "ytcngaknlagocdaa", sum := "fdfd7d125809e874d34328a3d54ea64476f5f4019d917146549b05f70850cd1b", func := "graft/graftlaw17.ChunkBounds", spec := "chunkBounds", unfollowed := true, recurses := true, apart := false, narrowed := true }
def ChunkBoundsUptoSaid : Prop := chunkBoundsUptoRow.holds Try.pinned (OpenSpec.upto chunkBoundsSpec)

/-- 'graftlaw17.ChunkLists', WHERE WHAT IT READS IS OF BULK AT MOST 1048576: true; the input reads as it did. -/
def chunkListsUptoRow : OpenClaim := { program := "ytcngaknlagocdaa", sum := "fdfd7d125809e874d34328a3d54ea64476f5f4019d917146549b05f70850cd1b", func := "graft/graftlaw17.ChunkLists", spec := "chunkLists", unfollowed := true, recurses := true, apart := false, narrowed := true }
def ChunkListsUptoSaid : Prop := chunkListsUptoRow.holds Try.pinned (OpenSpec.upto chunkListsSpec)

/-- 'graftlaw17.ChunkAt', WHERE WHAT IT READS IS OF BULK AT MOST 1048576: true; the input reads as it did. -/
def chunkAtUptoRow : OpenClaim := { program := "ytcngaknlagocdaa", sum := "fdfd7d125809e874d34328a3d54ea64476f5f4019d917146549b05f70850cd1b", func := "graft/graftlaw17.ChunkAt", spec := "chunkAt", unfollowed := true, recurses := true, apart := false, narrowed := true }
def ChunkAtUptoSaid : Prop := chunkAtUptoRow.holds Try.pinned (OpenSpec.upto chunkAtSpec)

/-- 'graftlaw17.ChunkSafe', WHERE WHAT IT READS IS OF BULK AT MOST 1048576: true; the input reads as it did. -/
def chunkSafeUptoRow : OpenClaim := { program := "ytcngaknlagocdaa", sum := "fdfd7d125809e874d34328a3d54ea64476f5f4019d917146549b05f70850cd1b", func := "graft/graftlaw17.ChunkSafe", spec := "chunkSafe", unfollowed := true, recurses := true, apart := false, narrowed := true }
def ChunkSafeUptoSaid : Prop := chunkSafeUptoRow.holds Try.pinned (OpenSpec.upto chunkSafeSpec)

/-- 'graftlaw17.ChunkExecutes', WHERE WHAT IT READS IS OF BULK AT MOST 1048576: true; the input reads as it did. -/
def chunkExecutesUptoRow : OpenClaim := { program := "ytcngaknlagocdaa", sum := "fdfd7d125809e874d34328a3d54ea64476f5f4019d917146549b05f70850cd1b", func := "graft/graftlaw17.ChunkExecutes", spec := "chunkExecutes", unfollowed := true, recurses := true, apart := false, narrowed := true }
def ChunkExecutesUptoSaid : Prop := chunkExecutesUptoRow.holds Try.pinned (OpenSpec.upto chunkExecutesSpec)

end Rows
end Go.Proofs.Ytcngaknlagocdaa
