/- How extents, bytes and their like lie in memory. -/
import Derived.Test.YtibdmklcdllklaaCxI
import Derived.Test.YtibdmklcdllklaaPlB
namespace Go.Cx
set_option linter.unusedVariables false
set_option linter.unusedSimpArgs false
open Go

def encE (e : Int × Int) : List Value := [.int .i64 e.1, .int .i64 e.2]
theorem encE_len (e : Int × Int) : (encE e).length = 2 := rfl
def exV (o : Option (Int × Int)) : List Value := [.int .i64 (o.getD (0, 0)).1, .int .i64 (o.getD (0, 0)).2]
theorem exV_some (e : Int × Int) : exV (some e) = encE e := rfl
theorem exV_none : exV none = [.int .i64 0, .int .i64 0] := rfl
theorem nx (k : Nat) : (some (Value.int .i64 ((k : Int) + 1))) = some (.int .i64 ((k + 1 : Nat) : Int)) := by simp
theorem tdivw {x s : Int} (h1 : 0 ≤ x) (h2 : x ≤ 9223372036854775807) (hs : 1 ≤ s) : IntKind.i64.wrap (x.tdiv s) = x / s := by
  rw [Int.tdiv_eq_ediv_of_nonneg h1]
  have h3 : 0 ≤ x / s := Int.ediv_nonneg h1 (by omega)
  have h4 : x / s ≤ x := Int.ediv_le_self s h1
  exact i64w (by omega) (by omega)
theorem row_set {w : World} {m : Nat} {e : TypeId} {l l' : List Value} (h : w.heap[m]? = some (Blk.row e l).toObj) : (w.setRow m ⟨l'⟩).heap[m]? = some (Blk.row e l').toObj := setRow_heap w m ⟨l⟩ ⟨l'⟩ e (0, 0) h
def encI (x : Int) : List Value := [.int .i64 x]
theorem encI_len (x : Int) : (encI x).length = 1 := rfl
/-- a layout's cells -/
def layV (s b o n : Int) : List Value := [.int .i64 (Pl.lz (Pl.layE s b o n) s), .int .i64 (Pl.lz (Pl.layE s b o n) b), .int .i64 0, .int .i64 (Pl.lz (Pl.layE s b o n) (max o n)),
  .int .i64 (Pl.lz (Pl.layE s b o n) (Pl.layF s o n)), .int .i64 (Pl.lz (Pl.layE s b o n) (2 * Pl.slot s b)), .int .i64 (Pl.lz (Pl.layE s b o n) (Pl.layF s o n + 2 * Pl.slot s b))]
end Go.Cx
