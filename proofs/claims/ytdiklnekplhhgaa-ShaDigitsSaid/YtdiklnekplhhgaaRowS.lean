/- Openers of a law's arguments: strings. No condition. -/
import Derived.Test.YtdiklnekplhhgaaRow
import Derived.ChangeMaps5
namespace Go.Row
set_option linter.unusedVariables false
set_option linter.unusedSimpArgs false
open Go Go.Cx
variable {H : Type} {enc : TypeId × Value → H} {P : Program} {W : World} {base : Nat} {held : Bool}
theorem open_str {t : TypeId} {r : Reach} {b0 : Nat} {v : Value} {d : DataW H} {p : List MemPlace} (h : P.underlying t = some .string) (hv : Value.okWide P W r b0 t v) (hd : DataW.Trod enc P W base (fun _ => true) held t v d p) : ∃ xs : List UInt8, v = .string (bstr xs) := by
  obtain ⟨s, rfl, _, _, _⟩ := ChangeMaps.open_string h hv hd
  exact ⟨s.data.toList, rfl⟩
theorem u8_of {a : Int} (h : 0 ≤ a ∧ a ≤ 255) : ∃ c : UInt8, a = (c.toNat : Int) := ⟨UInt8.ofNat a.toNat, by
  have : (UInt8.ofNat a.toNat).toNat = a.toNat := by rw [UInt8.toNat_ofNat']; omega
  omega⟩
end Go.Row
