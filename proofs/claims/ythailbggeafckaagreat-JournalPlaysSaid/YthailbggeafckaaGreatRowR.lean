/- Openers of a law's arguments: records. No condition. -/
import Derived.Test.YthailbggeafckaaGreatRow
import Derived.Test.YthailbggeafckaaGreatBs2
namespace Go.Row
set_option linter.unusedVariables false
set_option linter.unusedSimpArgs false
open Go Go.Cx
theorem wf_u16 {n : Int} (h : (Lit.int .u16 n).wf = true) : 0 ≤ n ∧ n ≤ 65535 := by
  simpa [Lit.wf, IntKind.min, IntKind.max, IntKind.signed, IntKind.bits] using h
variable {H : Type} {enc : TypeId × Value → H} {P : Program} {W : World} {base : Nat} {held : Bool}
def rcS (P : Program) (t : TypeId) : Bool := fkS P t [.n .u64, .n .u64, .n .i64, .n .i64, .b]
theorem rc_of {cs : List Value} (hf : FAll W [.n .u64, .n .u64, .n .i64, .n .i64, .b] cs) : ∃ x : RcV, cs = encR x ∧ okR W x := by
  have hl := fall_len hf
  match cs, hl with
  | [c0, c1, c2, c3, c4], _ =>
    obtain ⟨⟨a, rfl, ha⟩, hf1⟩ := fall_n hf
    obtain ⟨⟨b, rfl, hb⟩, hf2⟩ := fall_n hf1
    obtain ⟨⟨c, rfl, hc⟩, hf3⟩ := fall_n hf2
    obtain ⟨⟨d, rfl, hd⟩, hf4⟩ := fall_n hf3
    obtain ⟨⟨s, rfl, hs⟩, hf5⟩ := fall_b hf4
    exact ⟨⟨a, b, c, d, s⟩, rfl, ⟨wf_u64 ha, wf_u64 hb, wf_i64 hc, wf_i64 hd⟩, hs⟩
theorem open_rc {t : TypeId} {r : Reach} {b0 : Nat} {v : Value} {d : DataW H} {p : List MemPlace} (h : rcS P t = true) (hv : Value.okWide P W r b0 t v) (hd : DataW.Trod enc P W base (fun _ => true) held t v d p) : ∃ x : RcV, v = .agg ⟨encR x⟩ ∧ okR W x := by
  obtain ⟨cs, rfl, hf⟩ := open_fk _ h hv hd
  obtain ⟨x, rfl, hx⟩ := rc_of hf
  exact ⟨x, rfl, hx⟩
def slR (P : Program) (t : TypeId) : Bool := match P.underlying t with
  | some (.slice e) => P.cellsOf e == 5 && rcS P e
  | _ => false
theorem open_rcs {t : TypeId} {r : Reach} {b0 : Nat} {v : Value} {d : DataW H} {p : List MemPlace} (h : slR P t = true) (hv : Value.okWide P W r b0 t v) (hd : DataW.Trod enc P W base (fun _ => true) held t v d p) :
    ∃ (q : Option Addr) (cap : Nat) (xs : List RcV), v = .slice q xs.length cap ∧ Rd W q (xs.flatMap encR) ∧ (∀ x, x ∈ xs → okR W x) ∧ xs.length ≤ cap ∧ cap ≤ 9223372036854775807 ∧ (cap ≠ 0 → ∀ ad, q = some ad → ad.spot = none) := by
  unfold slR at h
  split at h
  · rename_i e hu
    simp only [Bool.and_eq_true, beq_iff_eq] at h
    exact open_slS (Q := okR W) encR hu h.1 (fun n cs y hl hx => rc_of (trod_fk h.2 hx)) (by decide) hv hd
  · cases h
end Go.Row
