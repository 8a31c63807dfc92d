/- Entries of a journal, as they come in. No condition. -/
import Derived.Test.YthailbggeafckaaGreatPlK
namespace Go.Cx
set_option linter.unusedVariables false
set_option linter.unusedSimpArgs false
open Go
/-- an entry: cursor, offset, data -/
structure EnV where
  cu : Int
  of : Int
  d : SB
def encEn (x : EnV) : List Value := [.int .i64 x.cu, .int .i64 x.of, .slice x.d.p x.d.bs.length x.d.cap]
theorem encEn_len (x : EnV) : (encEn x).length = 3 := rfl
def okEn (W : World) (x : EnV) : Prop := Pl.I64 x.cu ∧ Pl.I64 x.of ∧ x.d.ok W
def fewB (xs : List EnV) : Bool := decide (xs.length ≤ 30) && xs.all fun x => decide (x.d.bs.length ≤ 200)
theorem Mem.dropR {w0 w : World} {X : Bs} {A Z1 Z2 : List (Nat × Blk)} (h : Mem w0 w X (A ++ (Z1 ++ Z2))) : Mem w0 w X (A ++ Z1) := h.drop (List.Sublist.append_left (List.sublist_append_left _ _) _)
end Go.Cx
