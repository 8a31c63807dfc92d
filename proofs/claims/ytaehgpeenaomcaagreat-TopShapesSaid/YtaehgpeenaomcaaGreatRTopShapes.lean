/- The row of TopShapes: whatever the input, the law returns true and the input reads as it did. No condition. -/
import Derived.Test.YtaehgpeenaomcaaGreatY15
import Derived.Test.YtaehgpeenaomcaaGreatJTopShapes
import Derived.WalkKit
import Derived.ProofKit
import Derived.OpenShut
import Derived.JoinedCond
namespace Go.Proofs.YtaehgpeenaomcaaGreat.topShapes
open Go Go.Cx Go.ChangeShapes Go.WideShapes Go.ChangeAt Go.RowKit
set_option linter.unusedVariables false
set_option linter.unusedSimpArgs false

theorem own : ownKnob Tryz.prog.godebug = none := by kernel_rfl
theorem laid : laidOutB Tryz.prog = true := by kernel_rfl

set_option maxHeartbeats 1600000 in
set_option maxRecDepth 100000 in
theorem contract (H : Type) (enc : TypeId × Value → H) (W : World) (base : Nat) (args : Array Value) (ds gs : List (DataW H)) (before : List MemPlace)
    (hsh : W.ShapedOpen Tryz.prog) (hval : ∀ (j : Nat) t v, Tryz.f4.params[j]? = some t → args[j]? = some v → Value.okWide Tryz.prog W .any base t v)
    (hW : DataW.Whole enc Tryz.prog Tryz.f4.params.toList Rows.topShapesSpec.vars false W args.toList ds gs before) :
    Calls Tryz.prog 4 args W fun e W' => ∃ v, e = .returned v ∧ Rows.topShapesSpec.post enc Tryz.prog Tryz.f4 false true false false W args v W' := by
  have hW' := hW
  obtain ⟨p, q, hA0, hV, hpq, hfz, hnd⟩ := hW
  have hA : DataW.TrodAll enc Tryz.prog W 0 (fun _ => true) true Tryz.f4.params.toList args.toList ds p := hA0
  rw [Tryz.params4] at hA hval
  obtain ⟨v0, vs0, d0, ds0, p0_, q0_, hargs, rfl, rfl, h0, r0⟩ := trodAll_cons hA
  obtain ⟨v1, vs1, d1, ds1, p1_, q1_, rfl, rfl, rfl, h1, r1⟩ := trodAll_cons r0
  obtain ⟨v2, vs2, d2, ds2, p2_, q2_, rfl, rfl, rfl, h2, r2⟩ := trodAll_cons r1
  obtain ⟨rfl, rfl, rfl⟩ := trodAll_nil r2
  obtain rfl : args = #[v0, v1, v2] := by cases args; simp_all
  obtain ⟨rfl, rfl⟩ := trodVars_none hV
  obtain ⟨a0, b0, H0, p0, cap0, xs0, rr0, cr0, ff0, sz0, bd0, mo0, rfl, ha0, hb0, hs0, hk0, hx0, hq0⟩ := Row.open_ca (P := Tryz.prog) (by kernel_rfl) (hval 0 28 v0 rfl rfl) h0
  obtain ⟨a1, rfl, hw1⟩ := Row.open_i (P := Tryz.prog) (by kernel_rfl : Row.Zm Tryz.prog 5 = some .u8) (hval 1 5 v1 rfl rfl) h1
  have ha1 := Row.wf_u8 hw1
  obtain ⟨a2, rfl, hw2⟩ := Row.open_i (P := Tryz.prog) (by kernel_rfl : Row.Zm Tryz.prog 5 = some .u8) (hval 2 5 v2 rfl rfl) h2
  have ha2 := Row.wf_u8 hw2
  have hgz := Row.glob_of_shaped hsh (by decide +kernel) (by kernel_rfl : ((begin Tryz.prog (fun _ _ => 0) default).world.heap[0]?).bind Obj.row? = some (#[.int .i64 0], 3)) rfl (by kernel_rfl) (by kernel_rfl) (by kernel_rfl)
  refine Calls.mono (law_shapes a0 b0 H0 p0 cap0 xs0 rr0 cr0 ff0 sz0 bd0 mo0 W ha0 hb0 hs0 hk0 hx0 hq0.1 hq0.2.1 hq0.2.2.1 hq0.2.2.2 a1 a2 ha1 ha2 hgz) fun e W' he => ?_
  obtain ⟨v, rfl, rfl, hx⟩ := he
  exact ⟨_, rfl, Row.post_true laid (by kernel_rfl) rfl (b := 4) (by kernel_rfl) (by kernel_rfl) hW' rfl hx⟩

set_option maxRecDepth 100000 in
theorem lifted (os : Os) (started : os.Started) (H : Type) (enc : TypeId × Value → H) :
    ReturnsInHanded {} Tryz.checked os 4 .any (Rows.topShapesSpec.pre6 enc Tryz.prog Tryz.f4 Rows.topShapesRow.domain false) (Rows.topShapesSpec.post enc Tryz.prog Tryz.f4 false true false false) := by
  refine Row.returns_shaped (C := Tryz.checked) own started (by kernel_rfl) Tryz.func4 (ChangeSpec.witness6 (enc := enc) (C := Tryz.checked) false ⟨#[], #[.agg #[.slice none 0 0, .int .i64 0, .int .i64 0, .int .u8 0, .int .u8 0, .int .u8 0, .int .u8 0, .int .u8 0, .int .u8 0, .int .u8 0, .int .u8 0, .int .u8 0, .int .u8 0, .int .u8 0, .int .u8 0, .int .u8 0, .int .u8 0, .int .u8 0, .int .u8 0, .int .u8 0, .int .u8 0, .int .u8 0, .int .u8 0, .int .u8 0, .int .u8 0, .int .u8 0, .int .u8 0, .int .u8 0, .int .u8 0, .int .u8 0, .int .u8 0, .int .u8 0, .int .u8 0, .int .u8 0, .int .u8 0, .int .u8 0, .int .u8 0, .int .u8 0, .int .u8 0, .int .u8 0, .int .u8 0, .int .u8 0, .int .u8 0, .int .u8 0, .int .u8 0, .int .u8 0, .int .u8 0, .int .u8 0, .int .u8 0, .int .u8 0, .int .u8 0, .int .u8 0, .int .u8 0, .int .u8 0, .int .u8 0, .int .u8 0, .int .u8 0, .int .u8 0, .int .u8 0, .int .u8 0, .int .u8 0, .int .u8 0, .int .u8 0, .int .u8 0, .int .u8 0, .int .u8 0, .int .u8 0, .slice none 0 0, .int .i64 0, .int .i64 0, .int .i64 0], .int .u8 0, .int .u8 0], []⟩ 8 (by kernel_rfl) (by kernel_rfl) (by kernel_rfl) (by kernel_rfl)) ?_
  intro W base args ds gs before hsh hval hW
  exact contract H enc W base args ds gs before hsh hval hW

theorem over : Rows.topShapesRow.holds Tryz.pinned (OpenSpec.ofChange Rows.topShapesSpec) :=
  OpenClaim.holds_of_wide 4 Tryz.f4 rfl rfl rfl rfl rfl rfl rfl ⟨rfl, rfl, rfl, rfl, rfl⟩ rfl rfl rfl rfl rfl (by kernel_rfl) Tryz.func4 joined
    (of_decide_eq_true (by kernel_rfl)) (by unfold Func.isWrapper; first | (rw [if_pos (by decide +kernel)]; kernel_rfl) | (rw [if_neg (by decide +kernel)]; exact ⟨rfl, rfl⟩))
    (fun os started H enc _ => lifted os started H enc)

/-- The statement. -/
theorem proved : Rows.TopShapesSaid :=
  over
end Go.Proofs.YtaehgpeenaomcaaGreat.topShapes
