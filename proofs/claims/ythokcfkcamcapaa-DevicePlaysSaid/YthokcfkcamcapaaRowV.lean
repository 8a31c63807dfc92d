/- Openers of a law's arguments: steps of a device. No condition. -/
import Derived.Test.YthokcfkcamcapaaRow
import Derived.Test.YthokcfkcamcapaaCyA
namespace Go.Row
set_option linter.unusedVariables false
set_option linter.unusedSimpArgs false
open Go Go.Cx
variable {H : Type} {enc : TypeId × Value → H} {P : Program} {W : World} {base : Nat} {held : Bool}
theorem st_of {cs : List Value} (hf : FAll W [.n .i64, .n .i64, .b, .n .u64] cs) : ∃ x : StV, cs = encSt x ∧ okSt W x := by
  have hl := fall_len hf
  match cs, hl with
  | [c0, c1, c2, c3], _ =>
    obtain ⟨⟨a, rfl, ha⟩, hf1⟩ := fall_n hf
    obtain ⟨⟨b, rfl, hb⟩, hf2⟩ := fall_n hf1
    obtain ⟨⟨s, rfl, hs⟩, hf3⟩ := fall_b hf2
    obtain ⟨⟨d, rfl, hd⟩, hf4⟩ := fall_n hf3
    exact ⟨⟨a, b, s, d⟩, rfl, hs, wf_i64 ha, wf_i64 hb, wf_u64 hd⟩
def slSt (P : Program) (t : TypeId) : Bool := match P.underlying t with
  | some (.slice e) => P.cellsOf e == 4 && fkS P e [.n .i64, .n .i64, .b, .n .u64]
  | _ => false
theorem open_sts {t : TypeId} {r : Reach} {b0 : Nat} {v : Value} {d : DataW H} {p : List MemPlace} (h : slSt P t = true) (hv : Value.okWide P W r b0 t v) (hd : DataW.Trod enc P W base (fun _ => true) held t v d p) :
    ∃ (q : Option Addr) (cap : Nat) (xs : List StV), v = .slice q xs.length cap ∧ Rd W q (xs.flatMap encSt) ∧ (∀ x, x ∈ xs → okSt W x) ∧ xs.length ≤ cap ∧ cap ≤ 9223372036854775807 ∧ (cap ≠ 0 → ∀ ad, q = some ad → ad.spot = none) := by
  unfold slSt at h
  split at h
  · rename_i e hu
    simp only [Bool.and_eq_true, beq_iff_eq] at h
    exact open_slS (Q := okSt W) encSt hu h.1 (fun n cs y hl hx => st_of (trod_fk h.2 hx)) (by decide) hv hd
  · cases h
end Go.Row
