/- A concrete walk as a function, second part O: the table; a call in a memory that has the one global. No condition. -/
import Derived.Test.YtaehgpeenaomcaaGreatBs4
namespace Go.Ev
set_option linter.unusedVariables false
set_option linter.unusedSimpArgs false
set_option linter.constructorNameAsVariable false
open Go
/-- the outcomes: all of them the value true -/
noncomputable def allT (l : List Rs) : Bool := List.rec (motive := fun _ => Bool) true (fun r _ ih => Rs.casesOn (motive := fun _ => Bool) r (fun v _ _ => Option.isSome (v.onB fun x => ite_ x (ite_ ih (some ()) none) none)) (fun _ _ _ => false)) l
noncomputable def h0 : T Bk := T.put (some (.row 3 [.u] true)) .nil 0
/-- the call of a function that takes nothing, in a memory that has the one global -/
noncomputable def runB (E : Env) (tb : T (List En)) (fuel f : Nat) : Bool := optR false allT (ev E tb fuel (.call f [] h0 100 fun r => some [r]))
theorem allT_spec : ∀ {l : List Rs}, allT l = true → ∀ r ∈ l, ∃ H n, r = .ret (.b true) H n
  | [], h, r, hr => by cases hr
  | .ret v H n :: l, h, r, hr => by
    replace h : Option.isSome (v.onB fun x => ite_ x (ite_ (allT l) (some ()) none) none) = true := h
    cases v with
    | b x =>
      replace h : Option.isSome (ite_ x (ite_ (allT l) (some ()) none) none) = true := h
      rw [ite_eq] at h
      split at h
      · rename_i hx
        rw [ite_eq] at h
        split at h
        · rename_i hl
          rcases List.mem_cons.1 hr with rfl | hr
          · subst hx; exact ⟨H, n, rfl⟩
          · exact allT_spec hl r hr
        · cases h
      · cases h
    | _ => cases h
  | .pan v H n :: l, h, r, hr => by cases h
section
variable {P : Program} {E : Env} {ok : OkL} {okc : OkC} {z : Int} {w : World} {tb : T (List En)}
theorem TbOk.of (h : allP (fun f l => ∀ e ∈ l, EnOk P E ok z f e) tb 1 0) : TbOk P E ok z tb := fun f l e hl he => by
  have := allP_spec h hl
  rw [Nat.mul_one, Nat.add_zero] at this
  exact this e he
theorem h0_get (i : Nat) : T.get h0 i = if i = 0 then some (.row 3 [.u] true) else none := by
  unfold h0
  rw [T.get_put, T.get_nil]
def r0 : Rho := fun i => if i = 0 then some (0, 0, 1) else none
theorem mr0 {e : TypeId} {fz : Nat × Nat} (hw : w.heap[0]? = some (.cells #[.int .i64 z] e fz)) (hf : (∀ j, j < 1 → ¬ (fz.1 ≤ j ∧ j < fz.2)) ∧ fz.1 ≤ fz.2) : Mr ok 50 z r0 ⟨Cx.No, fun _ => False⟩ w h0 100 w where
  ext := Cx.Ext.refl _ _
  own i b x hb hx := by
    rw [h0_get] at hb
    unfold r0 at hx
    by_cases hi : i = 0
    · rw [if_pos hi] at hb hx
      cases hb
      cases hx
      exact ⟨_, hw, .row rfl ⟨.cons .u .nil, fun y hy => by rw [List.mem_singleton.1 hy]; rfl⟩ hf⟩
    · rw [if_neg hi] at hb; cases hb
  fr i b x hb hx hi := by
    rw [h0_get, if_neg (by omega)] at hb
    cases hb
  inj i j b c x y hb hc _ _ _ := by
    rw [h0_get] at hb hc
    by_cases hi : i = 0
    · by_cases hj : j = 0
      · rw [hi, hj]
      · rw [if_neg hj] at hc; cases hc
    · rw [if_neg hi] at hb; cases hb
  new i hi := by unfold r0; rw [if_neg (by omega)]
  dom i b hb := by
    rw [h0_get] at hb
    by_cases hi : i = 0
    · omega
    · rw [if_neg hi] at hb; cases hb
  ron := by omega
  pz i hi := hi.elim
theorem runs_of {e : TypeId} {fz : Nat × Nat} {fuel f : Nat} (hro : E.ro = 50) (hI : Snd P ok okc 50 z (ev E tb fuel)) (hw : w.heap[0]? = some (.cells #[.int .i64 z] e fz)) (hf : (∀ j, j < 1 → ¬ (fz.1 ≤ j ∧ j < fz.2)) ∧ fz.1 ≤ fz.2) (h : runB E tb fuel f = true) : Cx.C P f [] w fun v w' => v = .bool true ∧ Cx.Ext Cx.No w w' := by
  unfold runB at h
  rw [optR_eq] at h
  rw [← hro] at hI
  cases hl : ev E tb fuel (.call f [] h0 100 fun r => some [r]) with
  | none => rw [hl] at h; cases h
  | some l =>
    rw [hl] at h
    have hg : Gl z ⟨Cx.No, fun _ => False⟩ w r0 := ⟨rfl, fun h => h.elim, e, fz, hw⟩
    have hm := mr0 (ok := ok) hw hf
    rw [← hro] at hm
    obtain ⟨h1, h2⟩ := call_ok hI hl .nil hm hg
    refine Calls.mono h2 fun en w' he => ?_
    obtain ⟨r, hr, ρ', h3, h4⟩ := he
    obtain ⟨H, n, rfl⟩ := allT_spec h r hr
    cases h4 with
    | ret hv hm => cases hv; exact ⟨_, rfl, rfl, hm.ext⟩
end
end Go.Ev
