/- Openers of a law's arguments: a device with a journal region, and entries. No condition. -/
import Derived.Test.YthailbggeafckaaGreatRowR
import Derived.Test.YthailbggeafckaaGreatCyJ
namespace Go.Row
set_option linter.unusedVariables false
set_option linter.unusedSimpArgs false
open Go Go.Cx
variable {H : Type} {enc : TypeId × Value → H} {P : Program} {W : World} {base : Nat} {held : Bool}
def cfS (P : Program) (t : TypeId) : Bool := fkS P t [.n .i64, .n .i64, .b, .n .i64, .n .i64, .n .u64]
theorem open_cf {t : TypeId} {r : Reach} {b0 : Nat} {v : Value} {d : DataW H} {p : List MemPlace} (h : cfS P t = true) (hv : Value.okWide P W r b0 t v) (hd : DataW.Trod enc P W base (fun _ => true) held t v d p) :
    ∃ (a b : Int) (s : SB) (c e k : Int), v = .agg ⟨[.int .i64 a, .int .i64 b, .slice s.p s.bs.length s.cap, .int .i64 c, .int .i64 e, .int .u64 k]⟩ ∧ Pl.I64 a ∧ Pl.I64 b ∧ s.ok W ∧ Pl.I64 c ∧ Pl.I64 e ∧ (0 ≤ k ∧ k ≤ 18446744073709551615) := by
  obtain ⟨cs, rfl, hf⟩ := open_fk _ h hv hd
  have hl := fall_len hf
  match cs, hl with
  | [c0, c1, c2, c3, c4, c5], _ =>
    obtain ⟨⟨a, rfl, ha⟩, hf1⟩ := fall_n hf
    obtain ⟨⟨b, rfl, hb⟩, hf2⟩ := fall_n hf1
    obtain ⟨⟨s, rfl, hs⟩, hf3⟩ := fall_b hf2
    obtain ⟨⟨c, rfl, hc⟩, hf4⟩ := fall_n hf3
    obtain ⟨⟨e, rfl, he⟩, hf5⟩ := fall_n hf4
    obtain ⟨⟨k, rfl, hk⟩, hf6⟩ := fall_n hf5
    exact ⟨a, b, s, c, e, k, rfl, wf_i64 ha, wf_i64 hb, hs, wf_i64 hc, wf_i64 he, wf_u64 hk⟩
def slEn (P : Program) (t : TypeId) : Bool := match P.underlying t with
  | some (.slice e) => P.cellsOf e == 3 && fkS P e [.n .i64, .n .i64, .b]
  | _ => false
theorem en_of {cs : List Value} (hf : FAll W [.n .i64, .n .i64, .b] cs) : ∃ x : EnV, cs = encEn x ∧ okEn W x := by
  have hl := fall_len hf
  match cs, hl with
  | [c0, c1, c2], _ =>
    obtain ⟨⟨a, rfl, ha⟩, hf1⟩ := fall_n hf
    obtain ⟨⟨b, rfl, hb⟩, hf2⟩ := fall_n hf1
    obtain ⟨⟨s, rfl, hs⟩, hf3⟩ := fall_b hf2
    exact ⟨⟨a, b, s⟩, rfl, wf_i64 ha, wf_i64 hb, hs⟩
theorem open_ens {t : TypeId} {r : Reach} {b0 : Nat} {v : Value} {d : DataW H} {p : List MemPlace} (h : slEn P t = true) (hv : Value.okWide P W r b0 t v) (hd : DataW.Trod enc P W base (fun _ => true) held t v d p) :
    ∃ (q : Option Addr) (cap : Nat) (xs : List EnV), v = .slice q xs.length cap ∧ Rd W q (xs.flatMap encEn) ∧ (∀ x, x ∈ xs → okEn W x) ∧ xs.length ≤ cap ∧ cap ≤ 9223372036854775807 ∧ (cap ≠ 0 → ∀ ad, q = some ad → ad.spot = none) := by
  unfold slEn at h
  split at h
  · rename_i e hu
    simp only [Bool.and_eq_true, beq_iff_eq] at h
    exact open_slS (Q := okEn W) encEn hu h.1 (fun n cs y hl hx => en_of (trod_fk h.2 hx)) (by decide) hv hd
  · cases h
end Go.Row
