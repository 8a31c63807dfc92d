/- Openers of a law's arguments: a truth value; a number and two runs of bytes. No condition. -/
import Derived.Test.YtkllojjpaelmhaaRow
import Derived.RowKit
namespace Go.Row
set_option linter.unusedVariables false
set_option linter.unusedSimpArgs false
open Go Go.Cx
variable {H : Type} {enc : TypeId × Value → H} {P : Program} {W : World} {base : Nat} {held : Bool}
theorem open_b1 {t : TypeId} {r : Reach} {b0 : Nat} {v : Value} {d : DataW H} {p : List MemPlace} (h : P.underlying t = some .bool) (hv : Value.okWide P W r b0 t v) (hd : DataW.Trod enc P W base (fun _ => true) held t v d p) : ∃ b : Bool, v = .bool b := by
  obtain ⟨b, h1, _⟩ := RowKit.open_bool h hv hd
  exact ⟨b, h1⟩
theorem open_ibb {t : TypeId} {r : Reach} {b0 : Nat} {v : Value} {d : DataW H} {p : List MemPlace} (h : fkS P t [.n .i64, .b, .b] = true) (hv : Value.okWide P W r b0 t v) (hd : DataW.Trod enc P W base (fun _ => true) held t v d p) :
    ∃ (a : Int) (s z : SB), v = .agg ⟨[.int .i64 a, .slice s.p s.bs.length s.cap, .slice z.p z.bs.length z.cap]⟩ ∧ Pl.I64 a ∧ s.ok W ∧ z.ok W := by
  obtain ⟨cs, rfl, hf⟩ := open_fk _ h hv hd
  have hl := fall_len hf
  match cs, hl with
  | [c0, c1, c2], _ =>
    obtain ⟨⟨a, rfl, ha⟩, hf1⟩ := fall_n hf
    obtain ⟨⟨s, rfl, hs⟩, hf2⟩ := fall_b hf1
    obtain ⟨⟨z, rfl, hz⟩, hf3⟩ := fall_b hf2
    exact ⟨a, s, z, rfl, wf_i64 ha, hs, hz⟩
end Go.Row
