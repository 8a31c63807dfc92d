/- Glue for bytes on devices. No condition. -/
import Derived.Test.YtibdmklcdllklaaCyB
import Derived.Test.YtibdmklcdllklaaCyA
import Derived.Test.YtibdmklcdllklaaPlW
namespace Go.Cx
set_option linter.unusedVariables false
set_option linter.unusedSimpArgs false
open Go
/-- what was handed over comes in -/
theorem Mem.withZ {w0 w : World} {A Z : List (Nat × Blk)} (h : Mem w0 w No A) (hZ : OwnZ w0 Z) : Mem w0 w (Mn (reals Z)) (A ++ Z) := by
  have hlt : ∀ p, p ∈ Z → p.2.real = true → p.1 < w0.heap.size := fun p hp hr => (Array.getElem?_eq_some_iff.1 (hZ.1 p hp hr)).1
  refine ⟨h.os, h.tape, h.output, h.size, fun k hk _ => h.same k hk id, fun p hp hr => ?_, fun p hp hr => ?_, ?_⟩
  · rcases List.mem_append.1 hp with hp | hp
    · exact h.own p hp hr
    · exact (h.same _ (hlt p hp hr) id).trans (hZ.1 p hp hr)
  · rcases List.mem_append.1 hp with hp | hp
    · exact .inr ((h.fresh p hp hr).resolve_left id)
    · exact .inl (mem_reals.2 ⟨p.2, hp, hr⟩)
  · rw [reals_app, List.nodup_append]
    refine ⟨h.nodup, hZ.2, fun k hk j hj e => ?_⟩
    subst e
    obtain ⟨b, hp, hr⟩ := mem_reals.1 hk
    obtain ⟨c, hq, hs⟩ := mem_reals.1 hj
    have h1 := (h.fresh _ hp hr).resolve_left id
    have h2 := hlt _ hq hs
    simp only at h1 h2
    omega
theorem slp_slp0 {p : Option Addr} {cap c es : Nat} (h : cap ≠ 0 → ∀ ad, p = some ad → ad.spot = none) : slp (slp p cap c es) (cap - c) 0 es = slp p cap c es := by
  refine slp_zero' (fun hc ad e => slp_spot (fun _ => h (by omega)) (by omega) e)
end Go.Cx
